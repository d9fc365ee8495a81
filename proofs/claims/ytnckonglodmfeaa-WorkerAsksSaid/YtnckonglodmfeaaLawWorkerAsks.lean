/- WorkerAsks: any ask, a right one; any bytes, or its bytes turned: what the worker's package puts and takes is what the document says. No condition. -/
import Derived.Test.YtnckonglodmfeaaM1
import Derived.Test.YtnckonglodmfeaaM12
import Derived.Test.YtnckonglodmfeaaRows
import Derived.ProofKit
import Derived.OpenShut
import Derived.ShutString
import Derived.ChangeOld
import Derived.SizedLaws
namespace Go.Proofs.Ytnckonglodmfeaa.WorkerAsks
open Go.ChangeShapes Go.WideShapes Go.ChangeAt Go.RowKit Go.Proofs.YtnckonglodmfeaaW.PrintWords Go.Proofs.YtnckonglodmfeaaW.PrintLast Go.Proofs.YtnckonglodmfeaaW.PrintMore Go.Proofs.Ytnckonglodmfeaa.B Go.Proofs.Ytnckonglodmfeaa.O Go.Proofs.Ytnckonglodmfeaa.R Go.Proofs.Ytnckonglodmfeaa.S Go.Proofs.Ytnckonglodmfeaa.Ls Go.Proofs.Ytnckonglodmfeaa.Is Go.Proofs.Ytnckonglodmfeaa.Js Go.Proofs.Ytnckonglodmfeaa.Gs Go.Proofs.Ytnckonglodmfeaa.Ik
open Go.Proofs.Ytnckonglodmfeaa.Gc hiding infoU8
set_option linter.unusedVariables false
set_option linter.unusedSimpArgs false
theorem cells6 {W : World} {g e : Nat} {x0 x1 x2 x3 x4 x5 : Value} (h : W.heap[g]? = some (.cells #[x0, x1, x2, x3, x4, x5] e (0, 0))) : (W.cell? ⟨g, 0, none⟩ = some x0 ∧ W.cell? ⟨g, 1, none⟩ = some x1 ∧ W.cell? ⟨g, 2, none⟩ = some x2 ∧ W.cell? ⟨g, 3, none⟩ = some x3 ∧ W.cell? ⟨g, 4, none⟩ = some x4 ∧ W.cell? ⟨g, 5, none⟩ = some x5) ∧ ∀ j, W.frozen? ⟨g, j, none⟩ = false :=
  ⟨⟨cell_at h 0 _ rfl, cell_at h 1 _ rfl, cell_at h 2 _ rfl, cell_at h 3 _ rfl, cell_at h 4 _ rfl, cell_at h 5 _ rfl⟩, fun j => blk_frozen h j⟩
theorem rtake_m (A : Option Addr) (c : Nat) (b : List Int) (n : Nat) (hn : b.length = n) (k : Int) (body : List Int) (nb : Nat) (hnb : body.length = nb) (sz er : Int) (ht : takeL b = (k, body, sz, er)) (w : World) (hC : kU8.C w A n b) (hc : n ≤ c) (hby : By b) (hl : n ≤ 1000000) :
    Calls Try.prog 15 #[.slice A n c] w fun e w' => ∃ A2 c2, e = .returned (.tuple #[.int .u8 k, .slice A2 nb c2, .int .i64 sz, .int .i64 er]) ∧ nb ≤ c2 ∧ kU8.C w' A2 nb body ∧ Below w.heap.size w w' := by
  subst hn
  subst hnb
  refine (rtake_calls A c b w hC hc hby hl).mono ?_
  rw [ht]
  rintro e w' ⟨A2, c2, rfl, h1, h2, hb⟩
  exact ⟨A2, c2, rfl, h1, h2.1 _ (Kd.C_below hC hb), hb⟩
/-- Bytes among others: a slice in a cell. -/
def ZIn (W : World) (g o : Nat) : Prop := ∃ (A : Option Addr) (n c : Nat) (z : List Int), W.cell? ⟨g, o, none⟩ = some (.slice A n c) ∧ z.length = n ∧ n ≤ c ∧ By z ∧ n ≤ 1000000 ∧ kU8.C W A n z
/-- An ask among others, from a cell on. -/
def AskIn (W : World) (g o : Nat) (j n r p v : Int) (l : List Blk) (A : Option Addr) (c : Nat) : Prop :=
  (W.cell? ⟨g, o, none⟩ = some (.int .i64 j) ∧ W.cell? ⟨g, o + 1, none⟩ = some (.int .u64 n) ∧ W.cell? ⟨g, o + 2, none⟩ = some (.int .i64 r) ∧ W.cell? ⟨g, o + 3, none⟩ = some (.int .i64 p) ∧ W.cell? ⟨g, o + 4, none⟩ = some (.int .i64 v) ∧ W.cell? ⟨g, o + 5, none⟩ = some (.slice A l.length c)) ∧ kBlk.C W A l.length l
set_option maxHeartbeats 8000000 in
set_option maxRecDepth 100000 in
theorem walk (w : World) (cs : Array Value) (x : Int × Int × Int × Fun) (hK : kAsk.K w x cs.toList) (hok : AskOk x) (cs2 : Array Value) (y : Spc) (hK2 : kSpec.K w y cs2.toList) (hok2 : SpecOk y)
    (Ab : Option Addr) (cb : Nat) (b : List Int) (hCb : kU8.C w Ab b.length b) (hcb : b.length ≤ cb) (hmb : b.length * 1 ≤ 140737488351232) (hwb : ∀ x ∈ b, (Lit.int .u8 x).wf = true)
    (Ak : Option Addr) (ck : Nat) (ks : List Int) (hCk : kI.C w Ak ks.length ks) (hck : ks.length ≤ ck) (hmk : ks.length * 8 ≤ 140737488351232) (hwk : ∀ x ∈ ks, (Lit.int .i64 x).wf = true)
    (At : Option Addr) (ct : Nat) (ts : List Int) (hCt : kU8.C w At ts.length ts) (hct : ts.length ≤ ct) (hmt : ts.length * 1 ≤ 140737488351232) (hwt : ∀ x ∈ ts, (Lit.int .u8 x).wf = true) :
    Calls Try.prog 3 #[.agg cs, .agg cs2, .slice Ab b.length cb, .slice Ak ks.length ck, .slice At ts.length ct] w fun e w' => e = .returned (.bool true) ∧ Below w.heap.size w w' := by
  have mixed : Try.prog.follows .mixedOrders = true := by kernel_rfl
  obtain ⟨j, n, r, p, v, l⟩ := x
  obtain ⟨P, V, Nb, bl⟩ := y
  obtain ⟨A0, c0, e0, hlc0, hC0⟩ := ask_K hK
  obtain ⟨A1, c1, e1, hlc1, hC1⟩ := spec_K hK2
  obtain rfl : cs = #[.int .i64 j, .int .u64 n, .int .i64 r, .int .i64 p, .int .i64 v, .slice A0 l.length c0] := by cases cs; simp_all
  obtain rfl : cs2 = #[.int .u8 P, .int .u8 V, .int .u8 Nb, .slice A1 bl.length c1] := by cases cs2; simp_all
  obtain ⟨hj, hn, hr, hp, hv, hR⟩ := hok
  obtain ⟨hP, hV, hN, hbl⟩ := hok2
  simp only at hj hn hr hp hv hR hP hV hN hbl
  have HC0 := Aside0.mk hC0
  have HC1 := Aside0.mk hC1
  have HCB := Aside0.mk hCb
  have HCK := Aside0.mk hCk
  have HCT := Aside0.mk hCt
  have HR := Aside0.mk hR
  have HBL := Aside0.mk hbl
  have HYB := Aside0.mk (show By b from fun x hx => wf_u8 (hwb x hx))
  have HYT := Aside0.mk (show By ts from fun x hx => wf_u8 (hwt x hx))
  have hs1 : (w.alloc (.cells #[.int .i64 j, .int .u64 n, .int .i64 r, .int .i64 p, .int .i64 v, .slice A0 l.length c0] 27)).heap.size = w.heap.size + 1 := World.size_alloc _ _
  have hs2 : ((w.alloc (.cells #[.int .i64 j, .int .u64 n, .int .i64 r, .int .i64 p, .int .i64 v, .slice A0 l.length c0] 27)).alloc (.cells #[.int .u8 P, .int .u8 V, .int .u8 Nb, .slice A1 bl.length c1] 30)).heap.size = w.heap.size + 2 := by rw [World.size_alloc, hs1]
  have HS2 := Aside0.mk hs2
  have HB2 := Aside0.mk (show Below w.heap.size w ((w.alloc (.cells #[.int .i64 j, .int .u64 n, .int .i64 r, .int .i64 p, .int .i64 v, .slice A0 l.length c0] 27)).alloc (.cells #[.int .u8 P, .int .u8 V, .int .u8 Nb, .slice A1 bl.length c1] 30)) from ((Below.refl _ _).alloc (Nat.le_refl _) _).alloc (by rw [hs1]; omega) _)
  have HX := Aside0.mk (show ∀ W', Below (w.heap.size + 2) ((w.alloc (.cells #[.int .i64 j, .int .u64 n, .int .i64 r, .int .i64 p, .int .i64 v, .slice A0 l.length c0] 27)).alloc (.cells #[.int .u8 P, .int .u8 V, .int .u8 Nb, .slice A1 bl.length c1] 30)) W' → AskC W' w.heap.size j n r p v (.slice A0 l.length c0) ∧ W'.cell? ⟨w.heap.size + 1, 0, none⟩ = some (.int .u8 P) ∧ W'.cell? ⟨w.heap.size + 1, 1, none⟩ = some (.int .u8 V) ∧ W'.cell? ⟨w.heap.size + 1, 2, none⟩ = some (.int .u8 Nb) ∧ W'.cell? ⟨w.heap.size + 1, 3, none⟩ = some (.slice A1 bl.length c1) from fun W' h => by
    obtain ⟨g, g'⟩ := two_cells h
    exact ⟨⟨cell_at g 0 _ rfl, cell_at g 1 _ rfl, cell_at g 2 _ rfl, cell_at g 3 _ rfl, cell_at g 4 _ rfl, cell_at g 5 _ rfl⟩, cell_at g' 0 _ rfl, cell_at g' 1 _ rfl, cell_at g' 2 _ rfl, cell_at g' 3 _ rfl⟩)
  have HAB := Aside0.mk (show ((w.alloc (.cells #[.int .i64 j, .int .u64 n, .int .i64 r, .int .i64 p, .int .i64 v, .slice A0 l.length c0] 27)).alloc (.cells #[.int .u8 P, .int .u8 V, .int .u8 Nb, .slice A1 bl.length c1] 30)).heap[w.heap.size]? = some (.cells #[.int .i64 j, .int .u64 n, .int .i64 r, .int .i64 p, .int .i64 v, .slice A0 l.length c0] 27 (0, 0)) from by rw [heap_alloc_old _ _ (by rw [hs1]; omega), heap_alloc_new])
  clear hC0 hC1 hCb hCk hCt hR hbl hwb hwk hwt hs1 hs2 hK hK2 e0 e1 hmb hmk hmt
  obtain ⟨W2, hW2⟩ : ∃ W2, W2 = (w.alloc (.cells #[.int .i64 j, .int .u64 n, .int .i64 r, .int .i64 p, .int .i64 v, .slice A0 l.length c0] 27)).alloc (.cells #[.int .u8 P, .int .u8 V, .int .u8 Nb, .slice A1 bl.length c1] 30) := ⟨_, rfl⟩
  rw [← hW2] at HS2 HB2 HX HAB
  go_enter Try.func3, Try.ntmps3
  go_upto_region 1 with fail
  rw [← hW2]
  have hz2 := HS2.out
  clear hW2
  go_upto_region 3 with (go_at_call 10; refine (awake_asks _).mono ?_; rintro _ w3 ⟨rfl, hb⟩; have HB3 := Aside0.mk (show Below (w.heap.size + 2) W2 w3 from hb.mono (by omega)); clear hb)
  have hz3 : w.heap.size + 2 ≤ w3.heap.size := by have := HB3.out.size; omega
  obtain ⟨⟨x0, x1, x2, x3, x4, x5⟩, y0, y1, y2, y3⟩ := HX.out w3 HB3.out
  by_cases hb2 : 2000 < b.length
  · have d1 : decide ((2000 : Int) < (b.length : Int)) = true := decide_eq_true (by omega)
    have d1' : decide (2000 < b.length) = true := decide_eq_true (by omega)
    go_wp2_with (go_at_call 11; refine (long_calls l A0 c0 _ (Kd.C_below HC0.out (HB2.out.trans (HB3.out.mono (by omega))))).mono ?_; rintro _ w4 ⟨bo, rfl, hbo, hb⟩; have HB4 := Aside0.mk (show Below (w.heap.size + 2) W2 w4 from HB3.out.trans (hb.mono hz3)); clear hb hbo x0 x1 x2 x3 x4 x5 y0 y1 y2 y3; cases bo)
    all_goals (go_ret; exact ⟨rfl, HB2.out.trans (HB4.out.mono (by omega))⟩)
  have d1 : decide ((2000 : Int) < (b.length : Int)) = false := decide_eq_false (by omega)
  go_upto_if 41 with (go_at_call 11; refine (long_calls l A0 c0 _ (Kd.C_below HC0.out (HB2.out.trans (HB3.out.mono (by omega))))).mono ?_; rintro _ w4 ⟨bo, rfl, hbo, hb⟩; have HB4 := Aside0.mk (show Below (w.heap.size + 2) W2 w4 from HB3.out.trans (hb.mono hz3)); have HBO := Aside0.mk hbo; clear hb hbo x0 x1 x2 x3 x4 x5 y0 y1 y2 y3; cases bo)
  rotate_left
  · go_wp2
    go_ret
    exact ⟨rfl, HB2.out.trans (HB4.out.mono (by omega))⟩
  have hl101 := (HBO.out (by trivial)).1
  clear HBO
  have hz4 : w.heap.size + 2 ≤ w4.heap.size := by have := HB4.out.size; omega
  obtain ⟨⟨x0, x1, x2, x3, x4, x5⟩, y0, y1, y2, y3⟩ := HX.out w4 HB4.out
  go_upto_region 6 with fail
  clear x0 x1 x2 x3 x4 x5 y0 y1 y2 y3
  obtain ⟨-, y0, y1, y2, y3⟩ := HX.out _ (HB4.out.alloc hz4 (.cells #[.int .i64 j, .int .u64 n, .int .i64 r, .int .i64 p, .int .i64 v, .slice A0 l.length c0] 27))
  obtain ⟨gc, hgc⟩ : ∃ gc, w4.heap.size = gc := ⟨_, rfl⟩
  have hA4 := HB2.out.trans (HB4.out.mono (by omega))
  have HGC := Aside0.mk hgc
  have HA4 := Aside0.mk hA4
  have HAB4 := Aside0.mk ((HB4.out.block w.heap.size (by omega)).trans (show W2.heap[w.heap.size]? = some (.cells #[.int .i64 j, .int .u64 n, .int .i64 r, .int .i64 p, .int .i64 v, .slice A0 l.length c0] 27 (0, 0)) from HAB.out))
  clear hA4
  go_upto_region 8 with (go_at_call 12; refine (made_calls P V Nb A1 c1 bl _ hP hV hN (Kd.C_alloc (Kd.C_below HC1.out HA4.out) _) hlc1 HBL.out).mono ?_; rintro _ w5 ⟨v2, vb, bs, rfl, hRm, hG, hv2, hb⟩; obtain ⟨Am, cm, rfl, hlm, hCm⟩ := Kd.R_reads hRm; obtain ⟨nb, hnb⟩ : ∃ nb, bs.length = nb := ⟨_, rfl⟩; rw [hnb] at hlm hCm ⊢; have HNB := Aside0.mk hnb; have HRM := Aside0.mk (Kd.R_mono (Kd.R_bound hRm) (ok' := fun k => gc < k) (fun k hk => by have := hk.2.1; rw [World.size_alloc] at this; omega)); have HG := Aside0.mk hG; have HV2 := Aside0.mk hv2; have hc5 := (hb.block w4.heap.size (by rw [World.size_alloc]; omega)).trans (heap_alloc_new w4 (.cells #[.int .i64 j, .int .u64 n, .int .i64 r, .int .i64 p, .int .i64 v, .slice A0 l.length c0] 27)); rw [hgc] at hc5 ⊢; have HB5 := Aside0.mk ((HA4.out.alloc HA4.out.size _).trans (hb.mono (HA4.out.alloc HA4.out.size _).size)); have ha5 := (hb.block w.heap.size (by rw [World.size_alloc]; omega)).trans ((heap_alloc_old w4 (.cells #[.int .i64 j, .int .u64 n, .int .i64 r, .int .i64 p, .int .i64 v, .slice A0 l.length c0] 27) (by omega)).trans HAB4.out); have HA5 := Aside0.mk ha5; have HZ5 := Aside0.mk hb.size; have hq3 := blk_put hc5 3 (.int .i64 (P % 5)) (show _ = #[.int .i64 j, .int .u64 n, .int .i64 r, .int .i64 (P % 5), .int .i64 v, .slice A0 l.length c0] from rfl); have hq4 := blk_put hq3 4 (.int .i64 v2) (show _ = #[.int .i64 j, .int .u64 n, .int .i64 r, .int .i64 (P % 5), .int .i64 v2, .slice A0 l.length c0] from rfl); have hq5 := blk_put hq4 5 (.slice Am nb cm) (show _ = #[.int .i64 j, .int .u64 n, .int .i64 r, .int .i64 (P % 5), .int .i64 v2, .slice Am nb cm] from rfl); have HQ5 := Aside0.mk hq5; obtain ⟨⟨r0, r1, r2, r3, r4, r5⟩, rz⟩ := cells6 hc5; obtain ⟨⟨q0, q1, q2, q3, q4, q5⟩, qz⟩ := cells6 hq5; clear hRm hnb hCm hG hv2 hc5 hb ha5 hq3 hq4 hq5 y0 y1 y2 y3)
  obtain ⟨gd, hgd⟩ : ∃ gd, w5.heap.size = gd := ⟨_, rfl⟩
  have hz5 : gc + 1 ≤ gd := by have := HZ5.out; rw [World.size_alloc] at this; omega
  obtain ⟨W8, hW8⟩ : ∃ W8, W8 = (((w5.setCell ⟨gc, 3, none⟩ (.int .i64 (P % 5))).setCell ⟨gc, 4, none⟩ (.int .i64 v2)).setCell ⟨gc, 5, none⟩ (.slice Am nb cm)).alloc (.cells #[.int .i64 j, .int .u64 n, .int .i64 r, .int .i64 (P % 5), .int .i64 v2, .slice Am nb cm] 27) := ⟨_, rfl⟩
  have hs5 : (((w5.setCell ⟨gc, 3, none⟩ (.int .i64 (P % 5))).setCell ⟨gc, 4, none⟩ (.int .i64 v2)).setCell ⟨gc, 5, none⟩ (.slice Am nb cm)).heap.size = gd := by rw [size_set, size_set, size_set]; exact hgd
  have hfar : ∀ i, i ≠ gc → i < gd → W8.heap[i]? = w5.heap[i]? := fun i h1 h2 => by
    rw [hW8, heap_alloc_old _ _ (by rw [hs5]; exact h2), Below.heap_setCell _ _ _ _ (show i ≠ gc from h1), Below.heap_setCell _ _ _ _ (show i ≠ gc from h1), Below.heap_setCell _ _ _ _ (show i ≠ gc from h1)]
  have HA8 := Aside0.mk (show W8.heap[w.heap.size]? = some (.cells #[.int .i64 j, .int .u64 n, .int .i64 r, .int .i64 p, .int .i64 v, .slice A0 l.length c0] 27 (0, 0)) from (hfar _ (by omega) (by omega)).trans HA5.out)
  have HC8 := Aside0.mk (show W8.heap[gc]? = some (.cells #[.int .i64 j, .int .u64 n, .int .i64 r, .int .i64 (P % 5), .int .i64 v2, .slice Am nb cm] 27 (0, 0)) from by rw [hW8, heap_alloc_old _ _ (by rw [hs5]; omega)]; exact HQ5.out)
  have HD8 := Aside0.mk (show W8.heap[gd]? = some (.cells #[.int .i64 j, .int .u64 n, .int .i64 r, .int .i64 (P % 5), .int .i64 v2, .slice Am nb cm] 27 (0, 0)) from by rw [hW8, ← hs5]; exact heap_alloc_new _ _)
  have HB8 := Aside0.mk (show Below w.heap.size w W8 from by
    rw [hW8]
    refine Below.alloc ?_ (by rw [hs5]; omega) _
    exact ((HB5.out.setCell (p := ⟨gc, 3, none⟩) (by show w.heap.size ≤ gc; omega) _).setCell (p := ⟨gc, 4, none⟩) (by show w.heap.size ≤ gc; omega) _).setCell (p := ⟨gc, 5, none⟩) (by show w.heap.size ≤ gc; omega) _)
  have HRM8 := Aside0.mk (Kd.R_step (w1 := W8) (Kd.R_mono (Kd.R_bound HRM.out) (ok' := fun k => gc < k ∧ k < gd) (fun k hk => ⟨hk.1, by have := hk.2.2.1; omega⟩)) (fun k hk hl => hfar k (by omega) (by omega)))
  have hw8 : W8.heap.size = gd + 1 := by rw [hW8, World.size_alloc, hs5]
  rw [← hgd] at HD8 hw8 hz5
  rw [hgd] at HD8 hw8 hz5 ⊢
  rw [← hW8]
  clear hW8 hfar hs5 HQ5 HRM HA5 r0 r1 r2 r3 r4 r5 rz q0 q1 q2 q3 q4 q5 qz
  obtain ⟨iu, hiu⟩ : ∃ i, IntKind.u64.wrap j = i := ⟨_, rfl⟩
  have hiu0 := (wrU64_range j).1
  rw [hiu] at hiu0
  have hpr := tmod_range hiu0 (show (0 : Int) < 16 by decide)
  obtain ⟨jd, hjd⟩ : ∃ p, iu.tmod 16 = p := ⟨_, rfl⟩
  have hjd' : iu % 16 = jd := by rw [← Int.tmod_eq_emod_of_nonneg hiu0]; exact hjd
  rw [hjd] at hpr
  obtain ⟨ir, hir⟩ : ∃ i, IntKind.u64.wrap r = i := ⟨_, rfl⟩
  have hir0 := (wrU64_range r).1
  rw [hir] at hir0
  have hqr := tmod_range hir0 (show (0 : Int) < 9 by decide)
  obtain ⟨rd, hrd⟩ : ∃ p, ir.tmod 9 = p := ⟨_, rfl⟩
  have hrd' : ir % 9 = rd := by rw [← Int.tmod_eq_emod_of_nonneg hir0]; exact hrd
  rw [hrd] at hqr
  have HJ := Aside0.mk (show IntKind.u64.wrap j = iu ∧ iu.tmod 16 = jd ∧ iu % 16 = jd ∧ IntKind.i64.wrap jd = jd ∧ ((16 : Int) = 0) = False from ⟨hiu, hjd, hjd', wrI64 jd (by omega) (by omega), by decide⟩)
  have HRR := Aside0.mk (show IntKind.u64.wrap r = ir ∧ ir.tmod 9 = rd ∧ ir % 9 = rd ∧ IntKind.i64.wrap rd = rd ∧ ((9 : Int) = 0) = False from ⟨hir, hrd, hrd', wrI64 rd (by omega) (by omega), by decide⟩)
  clear hiu hjd hjd' hir hrd hrd'
  have HAK := Aside0.mk (show ∀ W', Keep (fun i => i = gd) W8.drew W' → W'.cell? ⟨w.heap.size, 0, none⟩ = some (.int .i64 j) ∧ W'.cell? ⟨w.heap.size, 2, none⟩ = some (.int .i64 r) from fun W' h => by
    have g := (h.block w.heap.size (by show w.heap.size < W8.heap.size; omega) (by omega)).trans HA8.out
    exact ⟨cell_at g 0 _ rfl, cell_at g 2 _ rfl⟩)
  refine re_start [13] (fun i => i = gd) (by kernel_rfl) (n := 14) (l := #[false, false, false, false, false, false, false, false, false, false, false, false, false, false]) (by kernel_rfl) (by kernel_rfl) ?_
  refine re_take (fuel := 13) 0 rfl (by kernel_rfl) (listed' := #[true, false, false, false, false, false, false, false, false, false, false, false, false, false]) (by kernel_rfl) (fun _ _ _ h => h) (by kernel_rfl) (fun w' hR => by go_simp; first | done | with_reducible rfl) rfl ?_
  try simp only [Act.put, List.setIfInBounds_toArray, List.set_cons_zero, List.set_cons_succ]
  refine re_take (fuel := 12) 1 rfl (by kernel_rfl) (listed' := #[true, true, false, false, false, false, false, false, false, false, false, false, false, false]) (by kernel_rfl) (fun _ _ _ h => h) (by kernel_rfl) (fun w' hR => by have x0 := (HAK.out w' hR).1; go_simp; first | done | with_reducible rfl) rfl ?_
  try simp only [Act.put, List.setIfInBounds_toArray, List.set_cons_zero, List.set_cons_succ]
  refine re_take (fuel := 11) 2 rfl (by kernel_rfl) (listed' := #[true, true, true, false, false, false, false, false, false, false, false, false, false, false]) (by kernel_rfl) (fun _ _ _ h => h) (by kernel_rfl) (fun w' hR => by obtain ⟨x0, x1, x2, x3, x4⟩ := HJ.out; go_simp; first | done | with_reducible rfl) rfl ?_
  try simp only [Act.put, List.setIfInBounds_toArray, List.set_cons_zero, List.set_cons_succ]
  refine re_take (fuel := 10) 3 rfl (by kernel_rfl) (listed' := #[true, true, true, true, false, false, false, false, false, false, false, false, false, false]) (by kernel_rfl) (fun _ _ _ h => h) (by kernel_rfl) (fun w' hR => by obtain ⟨x0, x1, x2, x3, x4⟩ := HJ.out; go_simp; first | done | with_reducible rfl) rfl ?_
  try simp only [Act.put, List.setIfInBounds_toArray, List.set_cons_zero, List.set_cons_succ]
  refine re_take (fuel := 9) 4 rfl (by kernel_rfl) (listed' := #[true, true, true, true, true, false, false, false, false, false, false, false, false, false]) (by kernel_rfl) (fun _ _ _ h => h) (by kernel_rfl) (fun w' hR => by obtain ⟨x0, x1, x2, x3, x4⟩ := HJ.out; go_simp; first | done | with_reducible rfl) rfl ?_
  try simp only [Act.put, List.setIfInBounds_toArray, List.set_cons_zero, List.set_cons_succ]
  refine re_take (fuel := 8) 5 rfl (by kernel_rfl) (listed' := #[true, true, true, true, true, true, false, false, false, false, false, false, false, false]) (by kernel_rfl) (fun _ _ _ h => h) (by kernel_rfl) (fun w' hR => by go_simp; first | done | with_reducible rfl) rfl ?_
  try simp only [Act.put, List.setIfInBounds_toArray, List.set_cons_zero, List.set_cons_succ]
  refine re_take (fuel := 7) 6 rfl (by kernel_rfl) (listed' := #[true, true, true, true, true, true, true, false, false, false, false, false, false, false]) (by kernel_rfl) (fun _ _ _ h => h) (by kernel_rfl) (fun w' hR => by have x0 := (HAK.out w' hR).2; go_simp; first | done | with_reducible rfl) rfl ?_
  try simp only [Act.put, List.setIfInBounds_toArray, List.set_cons_zero, List.set_cons_succ]
  refine re_take (fuel := 6) 7 rfl (by kernel_rfl) (listed' := #[true, true, true, true, true, true, true, true, false, false, false, false, false, false]) (by kernel_rfl) (fun _ _ _ h => h) (by kernel_rfl) (fun w' hR => by obtain ⟨x0, x1, x2, x3, x4⟩ := HRR.out; go_simp; first | done | with_reducible rfl) rfl ?_
  try simp only [Act.put, List.setIfInBounds_toArray, List.set_cons_zero, List.set_cons_succ]
  refine re_take (fuel := 5) 8 rfl (by kernel_rfl) (listed' := #[true, true, true, true, true, true, true, true, true, false, false, false, false, false]) (by kernel_rfl) (fun _ _ _ h => h) (by kernel_rfl) (fun w' hR => by obtain ⟨x0, x1, x2, x3, x4⟩ := HRR.out; go_simp; first | done | with_reducible rfl) rfl ?_
  try simp only [Act.put, List.setIfInBounds_toArray, List.set_cons_zero, List.set_cons_succ]
  refine re_take (fuel := 4) 9 rfl (by kernel_rfl) (listed' := #[true, true, true, true, true, true, true, true, true, true, false, false, false, false]) (by kernel_rfl) (fun _ _ _ h => h) (by kernel_rfl) (fun w' hR => by obtain ⟨x0, x1, x2, x3, x4⟩ := HRR.out; go_simp; first | done | with_reducible rfl) rfl ?_
  try simp only [Act.put, List.setIfInBounds_toArray, List.set_cons_zero, List.set_cons_succ]
  refine re_take (fuel := 3) 10 rfl (by kernel_rfl) (listed' := #[true, true, true, true, true, true, true, true, true, true, true, false, false, false]) (by kernel_rfl) (fun _ _ _ h => h) (by kernel_rfl) (fun w' hR => by go_simp; first | done | with_reducible rfl) rfl ?_
  try simp only [Act.put, List.setIfInBounds_toArray, List.set_cons_zero, List.set_cons_succ]
  refine re_step (fuel := 2) 11 rfl (by kernel_rfl) (listed' := #[true, true, true, true, true, true, true, true, true, true, true, true, false, false]) (by kernel_rfl) (by kernel_rfl) (fun K' hK => ?_)
  obtain ⟨⟨r0, r1, r2, r3, r4, r5⟩, rz⟩ := cells6 (W := W8.drew) HD8.out; go_wp2_with fail
  refine hK.out _ _ (keep_drews ((Keep.refl (fun i => i = gd) W8).setCell ⟨gd, 0, none⟩ (.int .i64 jd) (fun _ => rfl))) ?_
  clear hK K'
  try simp only [Act.put, List.setIfInBounds_toArray, List.set_cons_zero, List.set_cons_succ]
  refine re_take (fuel := 1) 12 rfl (by kernel_rfl) (listed' := #[true, true, true, true, true, true, true, true, true, true, true, true, true, false]) (by kernel_rfl) (fun _ _ _ h => h) (by kernel_rfl) (fun w' hR => by go_simp; first | done | with_reducible rfl) rfl ?_
  try simp only [Act.put, List.setIfInBounds_toArray, List.set_cons_zero, List.set_cons_succ]
  refine re_free (fuel := 0) 13 rfl (by kernel_rfl) (listed' := #[true, true, true, true, true, true, true, true, true, true, true, true, true, true]) (by kernel_rfl) (by kernel_rfl) (fun K' hK => ?_)
  have hq := blk_put HD8.out 0 (.int .i64 jd) (show _ = #[.int .i64 jd, .int .u64 n, .int .i64 r, .int .i64 (P % 5), .int .i64 v2, .slice Am nb cm] from rfl); obtain ⟨⟨r0, r1, r2, r3, r4, r5⟩, rz⟩ := cells6 (W := (W8.setCell ⟨gd, 0, none⟩ (.int .i64 jd)).drew) hq; clear hq; go_wp2_with fail
  refine hK.out _ _ trivial ?_
  clear hK K'
  try simp only [Act.put, List.setIfInBounds_toArray, List.set_cons_zero, List.set_cons_succ]
  refine re_done (by kernel_rfl) ?_
  try clear r0 r1 r2 r3 r4 r5 rz
  clear HJ HRR HAK
  obtain ⟨W9, hW9⟩ : ∃ W9, W9 = ((W8.setCell ⟨gd, 0, none⟩ (.int .i64 jd)).setCell ⟨gd, 2, none⟩ (.int .i64 rd)).drew := ⟨_, rfl⟩
  have hfar : ∀ i, i ≠ gd → W9.heap[i]? = W8.heap[i]? := fun i h1 => by
    rw [hW9]
    show ((W8.setCell ⟨gd, 0, none⟩ (.int .i64 jd)).setCell ⟨gd, 2, none⟩ (.int .i64 rd)).heap[i]? = _
    rw [Below.heap_setCell _ _ _ _ (show i ≠ gd from h1), Below.heap_setCell _ _ _ _ (show i ≠ gd from h1)]
  have HA9 := Aside0.mk ((hfar w.heap.size (by omega)).trans HA8.out)
  have HC9 := Aside0.mk ((hfar gc (by omega)).trans HC8.out)
  have HD9 := Aside0.mk (show W9.heap[gd]? = some (.cells #[.int .i64 jd, .int .u64 n, .int .i64 rd, .int .i64 (P % 5), .int .i64 v2, .slice Am nb cm] 27 (0, 0)) from by
    rw [hW9]
    exact blk_put (blk_put HD8.out 0 (.int .i64 jd) (show _ = #[.int .i64 jd, .int .u64 n, .int .i64 r, .int .i64 (P % 5), .int .i64 v2, .slice Am nb cm] from rfl)) 2 (.int .i64 rd) rfl)
  have HB9 := Aside0.mk (show Below w.heap.size w W9 from by
    rw [hW9]
    exact ((HB8.out.setCell (p := ⟨gd, 0, none⟩) (by show w.heap.size ≤ gd; omega) _).setCell (p := ⟨gd, 2, none⟩) (by show w.heap.size ≤ gd; omega) _).drew)
  have hgood : funcErr (P % 5, v2, bs) = 0 ∧ ∀ b ∈ bs, BlkR b := by
    have h := HG.out
    have h2 := HV2.out
    exact good_fun h (by omega) (by omega) h2.2.1 h2.2.2.1 (by omega) (by omega)
  have HGD := Aside0.mk hgood
  have HM9 := Aside0.mk (show kBlk.C W9 Am nb bs from by
    have h := Kd.R_step (w1 := W9) HRM8.out (fun k hk hl => hfar k (by omega))
    obtain ⟨A', c', e, -, hC⟩ := Kd.R_reads h
    injection e with e1 e2 e3
    subst e1
    rw [HNB.out] at hC
    exact hC)
  rw [← hW9]
  clear hW9 hfar hgood HA8 HC8 HD8
  obtain rfl := HNB.out
  obtain ⟨⟨x0, x1, x2, x3, x4, x5⟩, -⟩ := cells6 HA9.out
  obtain ⟨⟨y0, y1, y2, y3, y4, y5⟩, -⟩ := cells6 HC9.out
  obtain ⟨⟨z0, z1, z2, z3, z4, z5⟩, -⟩ := cells6 HD9.out
  go_upto_block 0 with fail
  clear x0 x1 x2 x3 x4 x5 y0 y1 y2 y3 y4 y5 z0 z1 z2 z3 z4 z5
  obtain ⟨WX, hWX⟩ : ∃ WX, WX = W9.alloc (.cells #[.int .i64 j, .int .u64 n, .int .i64 r, .int .i64 p, .int .i64 v, .slice A0 l.length c0, .int .i64 j, .int .u64 n, .int .i64 r, .int .i64 (P % 5), .int .i64 v2, .slice Am bs.length cm, .int .i64 jd, .int .u64 n, .int .i64 rd, .int .i64 (P % 5), .int .i64 v2, .slice Am bs.length cm] 27) := ⟨_, rfl⟩
  obtain ⟨gx, hgx⟩ : ∃ gx, W9.heap.size = gx := ⟨_, rfl⟩
  have hsx : WX.heap.size = gx + 1 := by rw [hWX, World.size_alloc, hgx]
  have HBX := Aside0.mk (show Below w.heap.size w WX from by rw [hWX]; exact HB9.out.alloc HB9.out.size _)
  have HAT := Aside0.mk (show ∀ W', Below (gx + 1) WX W' → AskIn W' gx 0 j n r p v l A0 c0 ∧ AskIn W' gx 6 j n r (P % 5) v2 bs Am cm ∧ AskIn W' gx 12 jd n rd (P % 5) v2 bs Am cm from fun W' h => by
    have g := (h.block gx (by omega)).trans (show WX.heap[gx]? = some _ from by rw [hWX, ← hgx]; exact heap_alloc_new _ _)
    have hA := Kd.C_below (HC0.out) (HBX.out.trans (h.mono (by have := HBX.out.size; omega)))
    have hM : kBlk.C W' Am bs.length bs := Kd.C_below (show kBlk.C WX Am bs.length bs from by rw [hWX]; exact Kd.C_alloc HM9.out _) (h.mono (by omega))
    exact ⟨⟨⟨cell_at g 0 _ rfl, cell_at g 1 _ rfl, cell_at g 2 _ rfl, cell_at g 3 _ rfl, cell_at g 4 _ rfl, cell_at g 5 _ rfl⟩, hA⟩, ⟨⟨cell_at g 6 _ rfl, cell_at g 7 _ rfl, cell_at g 8 _ rfl, cell_at g 9 _ rfl, cell_at g 10 _ rfl, cell_at g 11 _ rfl⟩, hM⟩, ⟨⟨cell_at g 12 _ rfl, cell_at g 13 _ rfl, cell_at g 14 _ rfl, cell_at g 15 _ rfl, cell_at g 16 _ rfl, cell_at g 17 _ rfl⟩, hM⟩⟩)
  have HDX := Aside0.mk (show ∀ W', Below (gx + 1) WX W' → W'.heap[gd]? = some (.cells #[.int .i64 jd, .int .u64 n, .int .i64 rd, .int .i64 (P % 5), .int .i64 v2, .slice Am bs.length cm] 27 (0, 0)) from fun W' h => by
    have hgl := blk_lt HD9.out
    refine (h.block gd (by omega)).trans ?_
    rw [hWX, heap_alloc_old _ _ hgl]
    exact HD9.out)
  rw [hgx]
  rw [← hWX]
  clear hWX hgx HA9 HC9 HD9 HM9 HB9
  have HSX := Aside0.mk hsx
  go_wp2_with fail
  go_loopw [64] (fun vi wr => ∃ i : Nat, i ≤ 3 ∧ vi = .int .i64 i ∧ Aside0 (Below (gx + 1) WX wr)) (fun vi _ => 3 - (intOf vi).toNat)
  case atStart => exact ⟨0, by omega, rfl, ⟨Below.refl _ _⟩⟩
  case round =>
    obtain ⟨wo, hwo⟩ : ∃ wo, wo = wr := ⟨_, rfl⟩
    subst hwo
    obtain ⟨i, hi, rfl, HZ⟩ := hrel
    have hzo : gx + 1 ≤ wo.heap.size := by have := HZ.out.size; omega
    by_cases hi3 : i < 3
    · obtain ⟨ha, hc, hd⟩ := HAT.out wo HZ.out
      rcases (by omega : i = 0 ∨ i = 1 ∨ i = 2) with rfl | rfl | rfl
      · clear hc hd
        obtain ⟨⟨x0, x1, x2, x3, x4, x5⟩, hC⟩ := ha
        have HCo := Aside0.mk hC
        have hll : l.length ≤ 100000 := by omega
        have HAB := Aside0.mk (fun W' (h : Below (wo.heap.size + 1) (wo.alloc (.cells #[.int .i64 j, .int .u64 n, .int .i64 r, .int .i64 p, .int .i64 v, .slice A0 l.length c0] 27)) W') => ask_box h)
        have HSZ := Aside0.mk (World.size_alloc wo (.cells #[.int .i64 j, .int .u64 n, .int .i64 r, .int .i64 p, .int .i64 v, .slice A0 l.length c0] 27))
        have HZA := Aside0.mk (show Below (gx + 1) WX (wo.alloc (.cells #[.int .i64 j, .int .u64 n, .int .i64 r, .int .i64 p, .int .i64 v, .slice A0 l.length c0] 27)) from HZ.out.alloc hzo _)
        obtain ⟨E, hE⟩ : ∃ E, askErr (j, n, r, p, v, l) = E := ⟨_, rfl⟩
        obtain ⟨fl, hfl⟩ : ∃ fl, askL (j, n, r, p, v, l) = fl := ⟨_, rfl⟩
        obtain ⟨nf, hnf⟩ : ∃ nf, fl.length = nf := ⟨_, rfl⟩
        have HE := Aside0.mk hE
        have HFL := Aside0.mk hfl
        have HNF := Aside0.mk hnf
        clear hC hE hfl hnf
        by_cases hE0 : E = 0
        · subst hE0
          go_wp2_with (first
            | (go_at_call 13; refine (putask_calls j n r p v l A0 c0 _ hn.1 hn.2 (Kd.C_alloc HCo.out _) HR.out hll).mono ?_; rintro _ w1 ⟨hr1, hb1⟩; rw [HE.out] at hr1; obtain ⟨A6, c6, rfl, hl6, hC6⟩ := hr1.2 rfl; rw [HFL.out, HNF.out] at hC6 ⊢; have HC6 := Aside0.mk hC6; have HB6 := Aside0.mk hb1; clear hr1 hb1 hC6 hl6 x0 x1 x2 x3 x4 x5; obtain ⟨y0, y1, y2, y3, y4, y5⟩ := HAB.out w1 (HB6.out.mono (by rw [HSZ.out]; exact Nat.le_refl _)))
            | (go_at_call 14; refine (rask_calls j n r p v l A0 c0 _ hn.1 hn.2 (Kd.C_below (Kd.C_alloc HCo.out _) HB6.out) HR.out hll).mono ?_; rintro _ w2 ⟨hr2, hb2⟩; rw [HE.out] at hr2; obtain ⟨A7, c7, rfl, hl7, hC7⟩ := hr2.2 rfl; rw [HFL.out, HNF.out] at hC7 ⊢; have s1 := C_str (c := c6) (Kd.C_below HC6.out hb2); have s2 := C_str (c := c7) hC7; have HB6' := Aside0.mk (HZA.out.trans (HB6.out.mono (by have h1 := HZA.out.size; have h2 := HSX.out; omega))); have HB7 := Aside0.mk (HB6'.out.trans (hb2.mono (by have h1 := HB6'.out.size; have h2 := HSX.out; omega))); clear hr2 hb2 hC7 hl7))
          go_roundw
          case rel => exact ⟨1, by omega, by go_num, HB7⟩
          case measure => simp [intOf]
        · have hEb : (E == E) = true := by simp
          go_wp2_with (first
            | (go_at_call 13; refine (putask_calls j n r p v l A0 c0 _ hn.1 hn.2 (Kd.C_alloc HCo.out _) HR.out hll).mono ?_; rintro _ w1 ⟨hr1, hb1⟩; rw [HE.out] at hr1; obtain rfl := hr1.1 hE0; have HB6 := Aside0.mk hb1; clear hr1 hb1 x0 x1 x2 x3 x4 x5; obtain ⟨y0, y1, y2, y3, y4, y5⟩ := HAB.out w1 (HB6.out.mono (by rw [HSZ.out]; exact Nat.le_refl _)))
            | (go_at_call 14; refine (rask_calls j n r p v l A0 c0 _ hn.1 hn.2 (Kd.C_below (Kd.C_alloc HCo.out _) HB6.out) HR.out hll).mono ?_; rintro _ w2 ⟨hr2, hb2⟩; rw [HE.out] at hr2; obtain rfl := hr2.1 hE0; have s1 := C_str (c := 0) (C_nil .u8 w2); have HB6' := Aside0.mk (HZA.out.trans (HB6.out.mono (by have h1 := HZA.out.size; have h2 := HSX.out; omega))); have HB7 := Aside0.mk (HB6'.out.trans (hb2.mono (by have h1 := HB6'.out.size; have h2 := HSX.out; omega))); clear hr2 hb2))
          go_roundw
          case rel => exact ⟨1, by omega, by go_num, HB7⟩
          case measure => simp [intOf]
      · clear ha hd
        obtain ⟨⟨x0, x1, x2, x3, x4, x5⟩, hC⟩ := hc
        have HCo := Aside0.mk hC
        have hll : bs.length ≤ 100000 := by have h1 := HG.out.1; omega
        have HAB := Aside0.mk (fun W' (h : Below (wo.heap.size + 1) (wo.alloc (.cells #[.int .i64 j, .int .u64 n, .int .i64 r, .int .i64 (P % 5), .int .i64 v2, .slice Am bs.length cm] 27)) W') => ask_box h)
        have HSZ := Aside0.mk (World.size_alloc wo (.cells #[.int .i64 j, .int .u64 n, .int .i64 r, .int .i64 (P % 5), .int .i64 v2, .slice Am bs.length cm] 27))
        have HZA := Aside0.mk (show Below (gx + 1) WX (wo.alloc (.cells #[.int .i64 j, .int .u64 n, .int .i64 r, .int .i64 (P % 5), .int .i64 v2, .slice Am bs.length cm] 27)) from HZ.out.alloc hzo _)
        obtain ⟨E, hE⟩ : ∃ E, askErr (j, n, r, (P % 5), v2, bs) = E := ⟨_, rfl⟩
        obtain ⟨fl, hfl⟩ : ∃ fl, askL (j, n, r, (P % 5), v2, bs) = fl := ⟨_, rfl⟩
        obtain ⟨nf, hnf⟩ : ∃ nf, fl.length = nf := ⟨_, rfl⟩
        have HE := Aside0.mk hE
        have HFL := Aside0.mk hfl
        have HNF := Aside0.mk hnf
        clear hC hE hfl hnf
        by_cases hE0 : E = 0
        · subst hE0
          go_wp2_with (first
            | (go_at_call 13; refine (putask_calls j n r (P % 5) v2 bs Am cm _ hn.1 hn.2 (Kd.C_alloc HCo.out _) HGD.out.2 hll).mono ?_; rintro _ w1 ⟨hr1, hb1⟩; rw [HE.out] at hr1; obtain ⟨A6, c6, rfl, hl6, hC6⟩ := hr1.2 rfl; rw [HFL.out, HNF.out] at hC6 ⊢; have HC6 := Aside0.mk hC6; have HB6 := Aside0.mk hb1; clear hr1 hb1 hC6 hl6 x0 x1 x2 x3 x4 x5; obtain ⟨y0, y1, y2, y3, y4, y5⟩ := HAB.out w1 (HB6.out.mono (by rw [HSZ.out]; exact Nat.le_refl _)))
            | (go_at_call 14; refine (rask_calls j n r (P % 5) v2 bs Am cm _ hn.1 hn.2 (Kd.C_below (Kd.C_alloc HCo.out _) HB6.out) HGD.out.2 hll).mono ?_; rintro _ w2 ⟨hr2, hb2⟩; rw [HE.out] at hr2; obtain ⟨A7, c7, rfl, hl7, hC7⟩ := hr2.2 rfl; rw [HFL.out, HNF.out] at hC7 ⊢; have s1 := C_str (c := c6) (Kd.C_below HC6.out hb2); have s2 := C_str (c := c7) hC7; have HB6' := Aside0.mk (HZA.out.trans (HB6.out.mono (by have h1 := HZA.out.size; have h2 := HSX.out; omega))); have HB7 := Aside0.mk (HB6'.out.trans (hb2.mono (by have h1 := HB6'.out.size; have h2 := HSX.out; omega))); clear hr2 hb2 hC7 hl7))
          go_roundw
          case rel => exact ⟨2, by omega, by go_num, HB7⟩
          case measure => simp [intOf]
        · have hEb : (E == E) = true := by simp
          go_wp2_with (first
            | (go_at_call 13; refine (putask_calls j n r (P % 5) v2 bs Am cm _ hn.1 hn.2 (Kd.C_alloc HCo.out _) HGD.out.2 hll).mono ?_; rintro _ w1 ⟨hr1, hb1⟩; rw [HE.out] at hr1; obtain rfl := hr1.1 hE0; have HB6 := Aside0.mk hb1; clear hr1 hb1 x0 x1 x2 x3 x4 x5; obtain ⟨y0, y1, y2, y3, y4, y5⟩ := HAB.out w1 (HB6.out.mono (by rw [HSZ.out]; exact Nat.le_refl _)))
            | (go_at_call 14; refine (rask_calls j n r (P % 5) v2 bs Am cm _ hn.1 hn.2 (Kd.C_below (Kd.C_alloc HCo.out _) HB6.out) HGD.out.2 hll).mono ?_; rintro _ w2 ⟨hr2, hb2⟩; rw [HE.out] at hr2; obtain rfl := hr2.1 hE0; have s1 := C_str (c := 0) (C_nil .u8 w2); have HB6' := Aside0.mk (HZA.out.trans (HB6.out.mono (by have h1 := HZA.out.size; have h2 := HSX.out; omega))); have HB7 := Aside0.mk (HB6'.out.trans (hb2.mono (by have h1 := HB6'.out.size; have h2 := HSX.out; omega))); clear hr2 hb2))
          go_roundw
          case rel => exact ⟨2, by omega, by go_num, HB7⟩
          case measure => simp [intOf]
      · clear ha hc
        obtain ⟨⟨x0, x1, x2, x3, x4, x5⟩, hC⟩ := hd
        have HCo := Aside0.mk hC
        have hll : bs.length ≤ 100000 := by have h1 := HG.out.1; omega
        have HAB := Aside0.mk (fun W' (h : Below (wo.heap.size + 1) (wo.alloc (.cells #[.int .i64 jd, .int .u64 n, .int .i64 rd, .int .i64 (P % 5), .int .i64 v2, .slice Am bs.length cm] 27)) W') => ask_box h)
        have HSZ := Aside0.mk (World.size_alloc wo (.cells #[.int .i64 jd, .int .u64 n, .int .i64 rd, .int .i64 (P % 5), .int .i64 v2, .slice Am bs.length cm] 27))
        have HZA := Aside0.mk (show Below (gx + 1) WX (wo.alloc (.cells #[.int .i64 jd, .int .u64 n, .int .i64 rd, .int .i64 (P % 5), .int .i64 v2, .slice Am bs.length cm] 27)) from HZ.out.alloc hzo _)
        obtain ⟨E, hE⟩ : ∃ E, askErr (jd, n, rd, (P % 5), v2, bs) = E := ⟨_, rfl⟩
        obtain ⟨fl, hfl⟩ : ∃ fl, askL (jd, n, rd, (P % 5), v2, bs) = fl := ⟨_, rfl⟩
        obtain ⟨nf, hnf⟩ : ∃ nf, fl.length = nf := ⟨_, rfl⟩
        have HE := Aside0.mk hE
        have HFL := Aside0.mk hfl
        have HNF := Aside0.mk hnf
        clear hC hE hfl hnf
        by_cases hE0 : E = 0
        · subst hE0
          go_wp2_with (first
            | (go_at_call 13; refine (putask_calls jd n rd (P % 5) v2 bs Am cm _ hn.1 hn.2 (Kd.C_alloc HCo.out _) HGD.out.2 hll).mono ?_; rintro _ w1 ⟨hr1, hb1⟩; rw [HE.out] at hr1; obtain ⟨A6, c6, rfl, hl6, hC6⟩ := hr1.2 rfl; rw [HFL.out, HNF.out] at hC6 ⊢; have HC6 := Aside0.mk hC6; have HB6 := Aside0.mk hb1; clear hr1 hb1 hC6 hl6 x0 x1 x2 x3 x4 x5; obtain ⟨y0, y1, y2, y3, y4, y5⟩ := HAB.out w1 (HB6.out.mono (by rw [HSZ.out]; exact Nat.le_refl _)))
            | (go_at_call 14; refine (rask_calls jd n rd (P % 5) v2 bs Am cm _ hn.1 hn.2 (Kd.C_below (Kd.C_alloc HCo.out _) HB6.out) HGD.out.2 hll).mono ?_; rintro _ w2 ⟨hr2, hb2⟩; rw [HE.out] at hr2; obtain ⟨A7, c7, rfl, hl7, hC7⟩ := hr2.2 rfl; rw [HFL.out, HNF.out] at hC7 ⊢; have s1 := C_str (c := c6) (Kd.C_below HC6.out hb2); have s2 := C_str (c := c7) hC7; have HB6' := Aside0.mk (HZA.out.trans (HB6.out.mono (by have h1 := HZA.out.size; have h2 := HSX.out; omega))); have HB7 := Aside0.mk (HB6'.out.trans (hb2.mono (by have h1 := HB6'.out.size; have h2 := HSX.out; omega))); clear hr2 hb2 hC7 hl7))
          go_roundw
          case rel => exact ⟨3, by omega, by go_num, HB7⟩
          case measure => simp [intOf]
        · have hEb : (E == E) = true := by simp
          go_wp2_with (first
            | (go_at_call 13; refine (putask_calls jd n rd (P % 5) v2 bs Am cm _ hn.1 hn.2 (Kd.C_alloc HCo.out _) HGD.out.2 hll).mono ?_; rintro _ w1 ⟨hr1, hb1⟩; rw [HE.out] at hr1; obtain rfl := hr1.1 hE0; have HB6 := Aside0.mk hb1; clear hr1 hb1 x0 x1 x2 x3 x4 x5; obtain ⟨y0, y1, y2, y3, y4, y5⟩ := HAB.out w1 (HB6.out.mono (by rw [HSZ.out]; exact Nat.le_refl _)))
            | (go_at_call 14; refine (rask_calls jd n rd (P % 5) v2 bs Am cm _ hn.1 hn.2 (Kd.C_below (Kd.C_alloc HCo.out _) HB6.out) HGD.out.2 hll).mono ?_; rintro _ w2 ⟨hr2, hb2⟩; rw [HE.out] at hr2; obtain rfl := hr2.1 hE0; have s1 := C_str (c := 0) (C_nil .u8 w2); have HB6' := Aside0.mk (HZA.out.trans (HB6.out.mono (by have h1 := HZA.out.size; have h2 := HSX.out; omega))); have HB7 := Aside0.mk (HB6'.out.trans (hb2.mono (by have h1 := HB6'.out.size; have h2 := HSX.out; omega))); clear hr2 hb2))
          go_roundw
          case rel => exact ⟨3, by omega, by go_num, HB7⟩
          case measure => simp [intOf]
    · obtain rfl : i = 3 := by omega
      have HBZ := Aside0.mk (HBX.out.trans (HZ.out.mono (by have := HBX.out.size; omega)))
      obtain ⟨⟨z0, z1, z2, z3, z4, z5⟩, -⟩ := cells6 (HDX.out wo HZ.out)
      have HMd := Aside0.mk (HAT.out wo HZ.out).2.2.2
      have hEd := ask_fit (j := jd) (n := n) (r := rd) (f := (P % 5, v2, bs)) HGD.out.1 (by omega)
      have HEd := Aside0.mk hEd
      have hbl5 : bs.length ≤ 100000 := by have h1 := HG.out.1; omega
      obtain ⟨Y, hY⟩ : ∃ Y, askL (jd, n, rd, P % 5, v2, bs) = Y := ⟨_, rfl⟩
      obtain ⟨D, hD⟩ : ∃ D, askB (jd, n, rd, P % 5, v2, bs) = D := ⟨_, rfl⟩
      obtain ⟨ny, hny⟩ : ∃ ny, Y.length = ny := ⟨_, rfl⟩
      obtain ⟨nd, hnd⟩ : ∃ nd, D.length = nd := ⟨_, rfl⟩
      have hYD : layL 2 D = Y := by rw [← hD]; exact hY
      have hnd6 : nd ≤ 65536 := by
        have h1 := func_len (P % 5) v2 bs HGD.out.1 HGD.out.2
        have h2 := field_len jd
        have h3 := putl_ten n.toNat (by omega)
        have h4 := field_len rd
        rw [← hnd, ← hD]
        simp only [askB, List.length_append]
        omega
      have htk : takeL Y = (2, D, (ny : Int), 0) := by
        have h := take_lay (k := 2) (b := D) (rest := []) (by omega)
        rw [List.append_nil, hYD, hny] at h
        exact h
      have hny7 : ny ≤ 65600 := by
        have h1 := (putl_three (n := D.length) (by omega)).2
        rw [← hny, ← hYD, lay_len]
        omega
      have HYY := Aside0.mk hY
      have HNY := Aside0.mk hny
      have HND := Aside0.mk hnd
      have HTK := Aside0.mk htk
      have HYB1 := Aside0.mk (show By Y from by rw [← hY]; exact lay_by (by decide) (ask_byB _))
      have HYB2 := Aside0.mk (show By D from by rw [← hD]; exact ask_byB _)
      clear hEd hY hD hny hnd hYD htk
      go_upto_region 19 with (first
        | (go_at_call 14; refine (rask_calls jd n rd (P % 5) v2 bs Am cm _ hn.1 hn.2 HMd.out HGD.out.2 hbl5).mono ?_; rintro _ w1 ⟨hr1, hb1⟩; obtain ⟨Ay, cy, rfl, hly, hCy⟩ := hr1.2 HEd.out; rw [HYY.out, HNY.out] at hly hCy ⊢; have HCY := Aside0.mk hCy; have HB1 := Aside0.mk (HBZ.out.trans (hb1.mono HBZ.out.size)); clear hr1 hb1 hCy z0 z1 z2 z3 z4 z5)
        | (go_at_call 15; refine (rtake_m Ay cy Y ny HNY.out 2 D nd HND.out (ny : Int) 0 HTK.out _ HCY.out hly HYB1.out (by omega)).mono ?_; rintro _ w2 ⟨Ad, cd, rfl, hld, hCd, hb2⟩; have HCD := Aside0.mk hCd; have HCY2 := Aside0.mk (Kd.C_below HCY.out hb2); have HB2' := Aside0.mk (HB1.out.trans (hb2.mono HB1.out.size)); clear hb2 hCd))
      go_upto_block 2 with (first
        | (go_at_call 16; refine (turned_calls Y ks ts ny HNY.out Ay Ak At cy ck ct _ HCY2.out hly HYB1.out (by omega) (Kd.C_below HCK.out HB2'.out) (Kd.C_below HCT.out HB2'.out) HYT.out).mono ?_; rintro _ w3 ⟨m3, A3, n3, c3, rfl, hm3, hy3, hn3, hc3, hC3, hb3⟩; have HC3 := Aside0.mk hC3; have HM3 := Aside0.mk hm3; have HY3 := Aside0.mk hy3; have HCY3 := Aside0.mk (Kd.C_below HCY2.out hb3); have HCD3 := Aside0.mk (Kd.C_below HCD.out hb3); have HB3' := Aside0.mk (HB2'.out.trans (hb3.mono HB2'.out.size)); clear hb3 hC3 hm3 hy3 HCY2 HCD)
        | ((with_reducible refine gate_builtin (b := .append) (xs := #[.tmp 107, .tmp 108]) rfl ?_); at_builtin; refine Kd.R_append_rows (Kd.int .u8) (w0 := w3) w3.heap.size rfl (.tmp 107) (.tmp 108) 28 5 (.int .u8 0) 1 rfl Try.underlying28 infoU8 rfl (by decide) (by omega) (.slice (some ⟨w3.heap.size, 0, none⟩) 0 0) ([] : List Int) Y _ _ _ (fun _ => True) (fun _ => False) rfl rfl ?aO ?aR (fun _ _ h => h) (fun _ h => h.elim) ?aF ?aB ?aS ?aL ?_; (case aR => exact Kd.C_alloc HCY3.out _); (case aB => exact (Below.refl _ _).alloc (Nat.le_refl _) _); (case aF => exact (fun _ _ => trivial)); (case aO => exact R_lit0 kU8 5 w3); (case aS => simp); (case aL => (have := HNY.out; simp only [List.length_nil]; omega)); (intro v4 w4' ho hb4 hg hat; rw [List.nil_append] at ho; obtain ⟨A4, c4, rfl, -, -⟩ := Kd.R_reads ho; rw [HNY.out] at ho ⊢; have HO4 := Aside0.mk ho; have HW4 := Aside0.mk hb4; clear ho hb4 hg hat))
        | ((with_reducible refine gate_builtin (b := .append) (xs := #[.tmp 109, .tmp 110]) rfl ?_); at_builtin; refine Kd.R_append_rows (Kd.int .u8) (w0 := w3) w3.heap.size rfl (.tmp 109) (.tmp 110) 28 5 (.int .u8 0) 1 rfl Try.underlying28 infoU8 rfl (by decide) (by omega) (.slice A4 ny c4) Y b _ _ _ (fun _ => True) (fun _ => False) rfl rfl ?aO ?aR (fun _ _ h => h) (fun _ h => h.elim) ?aF ?aB ?aS ?aL ?_; (case aR => exact Kd.C_below HCB.out (HB3'.out.trans (HW4.out.mono HB3'.out.size))); (case aB => exact HW4.out); (case aF => exact (fun _ _ => trivial)); (case aO => exact HO4.out); (case aS => exact HW4.out.size); (case aL => (have := HNY.out; omega)); (intro v5 w5' ho hb5 hg hat; obtain ⟨A5, c5, rfl, hl5, hC5⟩ := Kd.R_reads ho; obtain ⟨n5, hn5⟩ : ∃ n5, (Y ++ b).length = n5 := ⟨_, rfl⟩; rw [hn5] at hl5 hC5 ⊢; have HN5 := Aside0.mk hn5; have HC5 := Aside0.mk hC5; have HW5 := Aside0.mk hb5; have HB5' := Aside0.mk (HB3'.out.trans (hb5.mono HB3'.out.size)); clear ho hb5 hg hat hn5 hC5 HO4 HW4))
        | (go_at_call 16; refine (turned_calls D ks ts nd HND.out Ad Ak At cd ck ct _ (Kd.C_below HCD3.out HW5.out) hld HYB2.out (by omega) (Kd.C_below HCK.out HB5'.out) (Kd.C_below HCT.out HB5'.out) HYT.out).mono ?_; rintro _ w6 ⟨m6, A6, n6, c6, rfl, hm6, hy6, hn6, hc6, hC6, hb6⟩; have HC6 := Aside0.mk hC6; have HM6 := Aside0.mk hm6; have HY6 := Aside0.mk hy6; have HW6 := Aside0.mk hb6; have HB6' := Aside0.mk (HB5'.out.trans (hb6.mono HB5'.out.size)); clear hb6 hC6 hm6 hy6)
        | (go_at_call 17; refine (rlay_n 2 (by decide) (by decide) A6 c6 m6 n6 HM6.out (layL 2 m6) (layL 2 m6).length rfl rfl _ HC6.out HY6.out (by omega)).mono ?_; rintro _ w7 ⟨A7, c7, rfl, -, hC7, hc7, hb7⟩; obtain ⟨z7, hz7⟩ : ∃ z7, layL 2 m6 = z7 := ⟨_, rfl⟩; obtain ⟨n7, hn7⟩ : ∃ n7, z7.length = n7 := ⟨_, rfl⟩; have hn7b : n7 ≤ 65600 := (by have h1 := (putl_three (n := m6.length) (by have := HM6.out; omega)).2; have h2 := HM6.out; rw [← hn7, ← hz7, lay_len]; omega); have hy7 : By z7 := (by rw [← hz7]; exact lay_by (by decide) HY6.out); rw [hz7, hn7] at hC7 hc7 ⊢; have HC7 := Aside0.mk hC7; have HN7 := Aside0.mk hn7; have HY7 := Aside0.mk hy7; have HW7 := Aside0.mk hb7; have HB7' := Aside0.mk (HB6'.out.trans (hb7.mono HB6'.out.size)); clear hb7 hC7 hz7 hn7 hy7 HC6)
        | (go_at_call 17; refine (rlay_n 3 (by decide) (by decide) Ad cd D nd HND.out (layL 3 D) (layL 3 D).length rfl rfl _ (Kd.C_below (Kd.C_below (Kd.C_below HCD3.out HW5.out) HW6.out) HW7.out) HYB2.out (by omega)).mono ?_; rintro _ w8 ⟨A8, c8, rfl, -, hC8, hc8, hb8⟩; obtain ⟨z8, hz8⟩ : ∃ z8, layL 3 D = z8 := ⟨_, rfl⟩; obtain ⟨n8, hn8⟩ : ∃ n8, z8.length = n8 := ⟨_, rfl⟩; have hn8b : n8 ≤ 65600 := (by have h1 := (putl_three (n := D.length) (by have := HND.out; omega)).2; have h2 := HND.out; rw [← hn8, ← hz8, lay_len]; omega); have hy8 : By z8 := (by rw [← hz8]; exact lay_by (by decide) HYB2.out); rw [hz8, hn8] at hC8 hc8 ⊢; have HC8 := Aside0.mk hC8; have HN8 := Aside0.mk hn8; have HY8 := Aside0.mk hy8; have HW8 := Aside0.mk hb8; have HB8' := Aside0.mk (HB7'.out.trans (hb8.mono HB7'.out.size)); clear hb8 hC8 hz8 hn8 hy8))
      have HN5L := Aside0.mk (show n5 ≤ 70000 from by have h1 := HN5.out; rw [List.length_append, HNY.out] at h1; omega)
      obtain ⟨WZ, hWZ⟩ : ∃ WZ, WZ = w8.alloc (.cells #[.slice Ab b.length cb, .slice Ay ny cy, .slice A3 n3 c3, .slice A5 n5 c5, .slice A7 n7 c7, .slice A8 n8 c8] 28) := ⟨_, rfl⟩
      obtain ⟨gz, hgz⟩ : ∃ gz, w8.heap.size = gz := ⟨_, rfl⟩
      have hsz : WZ.heap.size = gz + 1 := by rw [hWZ, World.size_alloc, hgz]
      have HBW := Aside0.mk (show Below w.heap.size w WZ from by rw [hWZ]; exact HB8'.out.alloc HB8'.out.size _)
      have HZT := Aside0.mk (show ∀ i, i < 6 → ∀ W', Below (gz + 1) WZ W' → ZIn W' gz i from fun i hi W' h => by
        have g := (h.block gz (by omega)).trans (show WZ.heap[gz]? = some _ from by rw [hWZ, ← hgz]; exact heap_alloc_new _ _)
        have hw8 : Below w8.heap.size w8 W' := by
          refine Below.trans ?_ (h.mono (by omega))
          rw [hWZ]
          exact (Below.refl _ _).alloc (Nat.le_refl _) _
        have k7 := HW8.out.trans (hw8.mono HW8.out.size)
        have k6 := HW7.out.trans (k7.mono HW7.out.size)
        have k5 := HW6.out.trans (k6.mono HW6.out.size)
        have k3 := HW5.out.trans (k5.mono HW5.out.size)
        rcases (by omega : i = 0 ∨ i = 1 ∨ i = 2 ∨ i = 3 ∨ i = 4 ∨ i = 5) with rfl | rfl | rfl | rfl | rfl | rfl
        · exact ⟨Ab, b.length, cb, b, cell_at g 0 _ rfl, rfl, hcb, HYB.out, by omega, Kd.C_below HCB.out (HB8'.out.trans (hw8.mono HB8'.out.size))⟩
        · exact ⟨Ay, ny, cy, Y, cell_at g 1 _ rfl, HNY.out, hly, HYB1.out, by omega, Kd.C_below HCY3.out k3⟩
        · exact ⟨A3, n3, c3, m3, cell_at g 2 _ rfl, HM3.out, hc3, HY3.out, by omega, Kd.C_below HC3.out k3⟩
        · exact ⟨A5, n5, c5, Y ++ b, cell_at g 3 _ rfl, HN5.out, hl5, By.append HYB1.out HYB.out, by have := HN5L.out; omega, Kd.C_below HC5.out k5⟩
        · exact ⟨A7, n7, c7, z7, cell_at g 4 _ rfl, HN7.out, hc7, HY7.out, by omega, Kd.C_below HC7.out k7⟩
        · exact ⟨A8, n8, c8, z8, cell_at g 5 _ rfl, HN8.out, hc8, HY8.out, by omega, Kd.C_below HC8.out hw8⟩)
      rw [hgz]
      rw [← hWZ]
      have HSW := Aside0.mk hsz
      clear hWZ hgz hsz HB8' HC8 HC7 HC5 HC3 HCY3 HCD3 HW5 HW6 HW7 HW8 HB3' HB5' HB6' HB7' HN8 HN7 HN5 HM3 HM6 HY3 HY6 HY7 HY8
      go_wp2_with fail
      go_loopw [121] (fun vi wr => ∃ i : Nat, i ≤ 6 ∧ vi = .int .i64 i ∧ Aside0 (Below (gz + 1) WZ wr)) (fun vi _ => 6 - (intOf vi).toNat)
      case atStart => exact ⟨0, by omega, rfl, ⟨Below.refl _ _⟩⟩
      case round =>
        obtain ⟨wq, hwq⟩ : ∃ wq, wq = wr := ⟨_, rfl⟩
        subst hwq
        obtain ⟨i, hi, rfl, HQ⟩ := hrel
        have hzq : gz + 1 ≤ wq.heap.size := by have h1 := HQ.out.size; have h2 := HSW.out; omega
        by_cases hi6 : i < 6
        · obtain ⟨A, nn, c, z, hcell, hzn, hnc, hzb, hnm, hCz⟩ := HZT.out i hi6 wq HQ.out
          obtain ⟨xa, xe, hx⟩ : ∃ xa xe, readAsk z = (xa, xe) := ⟨_, _, rfl⟩
          have HX1 := Aside0.mk hx
          have HZN := Aside0.mk hzn
          have HZB := Aside0.mk hzb
          have HCZ := Aside0.mk hCz
          clear hx hzn hzb hCz
          go_wp2_with (first
            | (go_at_call 18; refine (takeask_calls A c z nn HZN.out _ HCZ.out hnc HZB.out hnm).mono ?_; rintro _ y1 ⟨hr1, hb1⟩; rw [HX1.out] at hr1; obtain ⟨a1, a2, a3, a4, a5, vb1, bs1, rfl, hR1, hx1⟩ := hr1; obtain ⟨Ar, cr, rfl, -, hCr⟩ := Kd.R_reads hR1; simp only at hx1; subst hx1; obtain ⟨nr, hnr⟩ : ∃ nr, bs1.length = nr := ⟨_, rfl⟩; rw [hnr] at hCr ⊢; have HNR := Aside0.mk hnr; have HCR := Aside0.mk hCr; have HB1 := Aside0.mk (HQ.out.trans (hb1.mono hzq)); have HCZ1 := Aside0.mk (Kd.C_below HCZ.out hb1); clear hR1 hCr hnr hb1 hcell)
            | (go_at_call 19; refine (readask_calls A c z nn HZN.out _ (Kd.C_alloc HCZ1.out _) hnc HZB.out hnm).mono ?_; rintro _ y2 ⟨hr2, hb2⟩; rw [HX1.out] at hr2; obtain ⟨d1, d2, d3, d4, d5, vb2, bs2, rfl, hR2, hx2⟩ := hr2; simp only [Prod.mk.injEq] at hx2; obtain ⟨rfl, rfl, rfl, rfl, rfl, rfl⟩ := hx2; obtain ⟨As, c9, rfl, -, hCs⟩ := Kd.R_reads hR2; rw [HNR.out] at hCs ⊢; have HCS := Aside0.mk hCs; have hz1 := hb2.size; rw [World.size_alloc] at hz1; have HBB := Aside0.mk (show Below (y1.heap.size + 1) (y1.alloc (.cells #[.int .i64 a1, .int .u64 a2, .int .i64 a3, .int .i64 a4, .int .i64 a5, .slice Ar nr cr] 27)) (y2.alloc (.cells #[.int .i64 a1, .int .u64 a2, .int .i64 a3, .int .i64 a4, .int .i64 a5, .slice As nr c9] 27)) from (hb2.mono (by rw [World.size_alloc]; exact Nat.le_refl _)).alloc hz1 _); have HCR2 := Aside0.mk (Kd.C_below (Kd.C_alloc HCR.out (.cells #[.int .i64 a1, .int .u64 a2, .int .i64 a3, .int .i64 a4, .int .i64 a5, .slice Ar nr cr] 27)) hb2); have HB2 := Aside0.mk ((HB1.out.alloc (by have h1 := HB1.out.size; have h2 := HSW.out; omega) (.cells #[.int .i64 a1, .int .u64 a2, .int .i64 a3, .int .i64 a4, .int .i64 a5, .slice Ar nr cr] 27)).trans (hb2.mono (by rw [World.size_alloc]; have h1 := HB1.out.size; have h2 := HSW.out; omega))); obtain ⟨o0, o1, o2, o3, o4, o5⟩ := ask_box HBB.out; clear hR2 hCs hb2 hz1)
            | (go_at_call 20; refine (same_asks a1 a2 a3 a4 a5 bs1 nr HNR.out Ar As cr c9 _ (Kd.C_alloc HCR2.out _) (Kd.C_alloc HCS.out _)).mono ?_; rintro _ y3 ⟨rfl, hb3⟩; have hz2 : gz + 1 ≤ y2.heap.size := (by have h1 := HB2.out.size; have h2 := HSW.out; omega); have HB3 := Aside0.mk ((HB2.out.alloc hz2 (.cells #[.int .i64 a1, .int .u64 a2, .int .i64 a3, .int .i64 a4, .int .i64 a5, .slice As nr c9] 27)).trans (hb3.mono (by rw [World.size_alloc]; omega))); clear hb3))
          go_roundw
          case rel => exact ⟨i + 1, by omega, by go_num, HB3⟩
          case measure => simp [intOf]; omega
        · obtain rfl : i = 6 := by omega
          go_wp2
          go_ret
          exact ⟨rfl, HBW.out.trans (HQ.out.mono (by have := HBW.out.size; have := HSW.out; omega))⟩
theorem own : ownKnob Try.prog.godebug = none := by kernel_rfl
theorem laidOut : laidOutB Try.prog = true := by kernel_rfl
def IsRow (k : IntKind) (w : World) (a : Option Addr) (len cap : Nat) (zs : List Int) : Prop :=
  (a = none ∧ len = 0 ∧ cap = 0 ∧ zs = []) ∨
  ∃ x, a = some x ∧ len ≤ cap ∧ cap ≤ maxLen ∧ zs.length = cap ∧ (∀ i, i < zs.length → w.cell? (x.add i) = some (.int k (zs.getD i 0))) ∧ ∀ n ∈ zs, (Lit.int k n).wf = true
set_option maxRecDepth 100000 in
theorem lifted (os : Os) (started : os.Started) (H : Type) (enc : TypeId × Value → H) :
    ReturnsInHanded {} Try.checked os 3 .any (Rows.workerAsksSpec.pre6 enc Try.prog Try.f3 Rows.workerAsksRow.domain false) (Rows.workerAsksSpec.post enc Try.prog Try.f3 false true false false) := by
  refine returnsInHanded_of_change_sized (C := Try.checked) own started (by kernel_rfl) Try.func3
    (ChangeSpec.witness6 (enc := enc) (C := Try.checked) false ⟨#[], #[.agg #[.int .i64 0, .int .u64 0, .int .i64 0, .int .i64 0, .int .i64 0, .slice none 0 0], .agg #[.int .u8 0, .int .u8 0, .int .u8 0, .slice none 0 0], .slice none 0 0, .slice none 0 0, .slice none 0 0], []⟩ 8 (by kernel_rfl) (by kernel_rfl) (by kernel_rfl) (by kernel_rfl)) ?_
  intro W base args ds gs before hval0 hW hcnd hsz0 _
  have hsz : (DataW.weightsEach Try.prog (Try.f3.params.toList ++ Rows.workerAsksSpec.plain.varTypes Try.prog) (ds ++ gs)).all (· ≤ reachBytes) = true := hsz0
  have hval : ∀ (j : Nat) t v, Try.f3.params[j]? = some t → args[j]? = some v → Value.okWide Try.prog W .any base t v := hval0
  have hW' := hW
  obtain ⟨p, q, hA0, hV, rfl, hfz, hnd⟩ := hW
  have hA : DataW.TrodAll enc Try.prog W 0 (fun _ => true) true Try.f3.params.toList args.toList ds p := hA0
  rw [Try.params3] at hA hval hsz
  obtain ⟨v0, vs0, d0, ds0, p0, q0, hargs, rfl, rfl, h0, r0⟩ := trodAll_cons hA
  obtain ⟨v1, vs1, d1, ds1, p1, q1, rfl, rfl, rfl, h1, r1⟩ := trodAll_cons r0
  obtain ⟨v2, vs2, d2, ds2, p2, q2, rfl, rfl, rfl, h2, r2⟩ := trodAll_cons r1
  obtain ⟨v3, vs3, d3, ds3, p3, q3, rfl, rfl, rfl, h3, r3⟩ := trodAll_cons r2
  obtain ⟨v4, vs4, d4, ds4, p4, q4, rfl, rfl, rfl, h4, r4⟩ := trodAll_cons r3
  obtain ⟨rfl, rfl, rfl⟩ := trodAll_nil r4
  obtain rfl : args = #[v0, v1, v2, v3, v4] := by cases args; simp_all
  obtain ⟨rfl, rfl⟩ := trodVars_none hV
  obtain ⟨c0, rfl, hcs0⟩ := okWide_struct Try.underlying27 (hval 0 27 v0 rfl rfl)
  have k0 := h0
  have lt0 : ∀ x ∈ p0, x.block < W.heap.size := by obtain ⟨m, hm⟩ := k0; exact DataW.trod_lt m _ _ _ hm
  obtain ⟨fuel0, hf0⟩ := h0
  obtain ⟨x0, hK0, hok0⟩ := opens_ask _ _ _ _ _ _ _ _ _ hf0
  obtain ⟨c1, rfl, hcs1⟩ := okWide_struct Try.underlying30 (hval 1 30 v1 rfl rfl)
  have k1 := h1
  have lt1 : ∀ x ∈ p1, x.block < W.heap.size := by obtain ⟨m, hm⟩ := k1; exact DataW.trod_lt m _ _ _ hm
  obtain ⟨fuel1, hf1⟩ := h1
  obtain ⟨x1, hK1, hok1⟩ := opens_spec _ _ _ _ _ _ _ _ _ hf1
  obtain ⟨a2, len2, cap2, rfl⟩ := okWide_slice Try.underlying28 (hval 2 28 v2 rfl rfl)
  have k2 := h2
  have lt2 : ∀ x ∈ p2, x.block < W.heap.size := by obtain ⟨m, hm⟩ := k2; exact DataW.trod_lt m _ _ _ hm
  obtain ⟨z2, w2⟩ : ∃ zs, IsRow .u8 W a2 len2 cap2 zs := by
    obtain ⟨fuel, hf⟩ := h2
    rcases open_ints Try.underlying28 Try.underlying5 (by kernel_rfl) hf with ⟨hcs, _⟩ | ⟨x, l, c, zs, hcs, _, hl, hm, hz, _, hcell, hwz⟩
    · simp [Value.cells] at hcs
      obtain ⟨rfl, rfl, rfl⟩ := hcs
      exact ⟨[], .inl ⟨rfl, rfl, rfl, rfl⟩⟩
    · simp [Value.cells] at hcs
      obtain ⟨rfl, rfl, rfl⟩ := hcs
      exact ⟨zs, .inr ⟨_, rfl, hl, hm, by simpa using hz, hcell, hwz⟩⟩
  have y2 : len2 * 1 ≤ 140737488351232 := sized_ints hsz (j := 2) (t := 28) rfl rfl Try.underlying28 Try.underlying5 (by kernel_rfl) (by kernel_rfl) h2
  obtain ⟨l2, rfl, hr2, hm2, hwf2, hcap2⟩ := ReadsInt.ofRowC w2
  obtain ⟨a3, len3, cap3, rfl⟩ := okWide_slice Try.underlying31 (hval 3 31 v3 rfl rfl)
  have k3 := h3
  have lt3 : ∀ x ∈ p3, x.block < W.heap.size := by obtain ⟨m, hm⟩ := k3; exact DataW.trod_lt m _ _ _ hm
  obtain ⟨z3, w3⟩ : ∃ zs, IsRow .i64 W a3 len3 cap3 zs := by
    obtain ⟨fuel, hf⟩ := h3
    rcases open_ints Try.underlying31 Try.underlying3 (by kernel_rfl) hf with ⟨hcs, _⟩ | ⟨x, l, c, zs, hcs, _, hl, hm, hz, _, hcell, hwz⟩
    · simp [Value.cells] at hcs
      obtain ⟨rfl, rfl, rfl⟩ := hcs
      exact ⟨[], .inl ⟨rfl, rfl, rfl, rfl⟩⟩
    · simp [Value.cells] at hcs
      obtain ⟨rfl, rfl, rfl⟩ := hcs
      exact ⟨zs, .inr ⟨_, rfl, hl, hm, by simpa using hz, hcell, hwz⟩⟩
  have y3 : len3 * 8 ≤ 140737488351232 := sized_ints hsz (j := 3) (t := 31) rfl rfl Try.underlying31 Try.underlying3 (by kernel_rfl) (by kernel_rfl) h3
  obtain ⟨l3, rfl, hr3, hm3, hwf3, hcap3⟩ := ReadsInt.ofRowC w3
  obtain ⟨a4, len4, cap4, rfl⟩ := okWide_slice Try.underlying28 (hval 4 28 v4 rfl rfl)
  have k4 := h4
  have lt4 : ∀ x ∈ p4, x.block < W.heap.size := by obtain ⟨m, hm⟩ := k4; exact DataW.trod_lt m _ _ _ hm
  obtain ⟨z4, w4⟩ : ∃ zs, IsRow .u8 W a4 len4 cap4 zs := by
    obtain ⟨fuel, hf⟩ := h4
    rcases open_ints Try.underlying28 Try.underlying5 (by kernel_rfl) hf with ⟨hcs, _⟩ | ⟨x, l, c, zs, hcs, _, hl, hm, hz, _, hcell, hwz⟩
    · simp [Value.cells] at hcs
      obtain ⟨rfl, rfl, rfl⟩ := hcs
      exact ⟨[], .inl ⟨rfl, rfl, rfl, rfl⟩⟩
    · simp [Value.cells] at hcs
      obtain ⟨rfl, rfl, rfl⟩ := hcs
      exact ⟨zs, .inr ⟨_, rfl, hl, hm, by simpa using hz, hcell, hwz⟩⟩
  have y4 : len4 * 1 ≤ 140737488351232 := sized_ints hsz (j := 4) (t := 28) rfl rfl Try.underlying28 Try.underlying5 (by kernel_rfl) (by kernel_rfl) h4
  obtain ⟨l4, rfl, hr4, hm4, hwf4, hcap4⟩ := ReadsInt.ofRowC w4
  clear hA0 hval0 hsz0 hsz
  refine (walk W c0 x0 hK0 hok0 c1 x1 hK1 hok1 _ _ l2 (Kd.C_of_reads (d := (0 : Int)) (h1 := fun _ => rfl) hr2) hcap2 y2 hwf2 _ _ l3 (Kd.C_of_reads (d := (0 : Int)) (h1 := fun _ => rfl) hr3) hcap3 y3 hwf3 _ _ l4 (Kd.C_of_reads (d := (0 : Int)) (h1 := fun _ => rfl) hr4) hcap4 y4 hwf4).mono fun e W' ⟨he, bel⟩ => ?_
  subst he
  exact ⟨_, rfl, _, _, _, [], _, [], hW', trodAll_mk1 (shut_bool Try.underlying4 _), (trodAll_cons_mk (Below.trod laidOut (by kernel_rfl) (of_decide_eq_true (by kernel_rfl)) k0 bel lt0) (trodAll_cons_mk (Below.trod laidOut (by kernel_rfl) (of_decide_eq_true (by kernel_rfl)) k1 bel lt1) (trodAll_cons_mk (Below.trod laidOut (by kernel_rfl) (of_decide_eq_true (by kernel_rfl)) k2 bel lt2) (trodAll_cons_mk (Below.trod laidOut (by kernel_rfl) (of_decide_eq_true (by kernel_rfl)) k3 bel lt3) (trodAll_cons_mk (Below.trod laidOut (by kernel_rfl) (of_decide_eq_true (by kernel_rfl)) k4 bel lt4) trodAll_mk0))))), rfl, bel.frame _, fun h => by cases h⟩
theorem over : Rows.workerAsksRow.holds Try.pinned (OpenSpec.ofChange Rows.workerAsksSpec) :=
  OpenClaim.holds_of_wide 3 Try.f3 rfl rfl rfl rfl rfl rfl rfl ⟨rfl, rfl, rfl, rfl, rfl⟩ rfl rfl rfl rfl rfl (by kernel_rfl) Try.func3 (by kernel_rfl)
    (of_decide_eq_true (by kernel_rfl)) (by unfold Func.isWrapper; first | (rw [if_pos (by decide +kernel)]; kernel_rfl) | (rw [if_neg (by decide +kernel)]; exact ⟨rfl, rfl⟩))
    (fun os started H enc _ => lifted os started H enc)
end Go.Proofs.Ytnckonglodmfeaa.WorkerAsks
namespace Go.Proofs.Ytnckonglodmfeaa
/-- The statement. -/
theorem workerAsks_holds : Rows.WorkerAsksSaid := WorkerAsks.over
#print axioms workerAsks_holds
end Go.Proofs.Ytnckonglodmfeaa
