/- WorkerTells: any tell, a right one; any bytes, or its bytes turned: what the worker's package puts and takes of tells is what the document says. No condition. -/
import Derived.Test.YtnckonglodmfeaaM1
import Derived.Test.YtnckonglodmfeaaM10
import Derived.Test.YtnckonglodmfeaaM11
import Derived.Test.YtnckonglodmfeaaM13
import Derived.Test.YtnckonglodmfeaaM15
import Derived.Test.YtnckonglodmfeaaM16
import Derived.Test.YtnckonglodmfeaaRows
import Derived.ProofKit
import Derived.OpenShut
import Derived.ShutString
import Derived.ChangeOld
import Derived.SizedLaws
set_option linter.unusedVariables false
set_option linter.unusedSimpArgs false
namespace Go.Proofs.Ytnckonglodmfeaa.WorkerTells
open Go.ChangeShapes Go.WideShapes Go.ChangeAt Go.RowKit Go.Proofs.YtnckonglodmfeaaW.PrintWords Go.Proofs.YtnckonglodmfeaaW.PrintLast Go.Proofs.YtnckonglodmfeaaW.PrintMore B O R S Ls Is Js Gs Ik
open Gc hiding infoU8
theorem rtake_m (A : Option Addr) (c : Nat) (b : List Int) (n : Nat) (hn : b.length = n) (k : Int) (body : List Int) (nb : Nat) (hnb : body.length = nb) (sz er : Int) (ht : takeL b = (k, body, sz, er)) (w : World) (hC : kU8.C w A n b) (hc : n ≤ c) (hby : By b) (hl : n ≤ 1000000) :
 Calls Try.prog 15 #[.slice A n c] w fun e w' => ∃ A2 c2, e = .returned (.tuple #[.int .u8 k, .slice A2 nb c2, .int .i64 sz, .int .i64 er]) ∧ nb ≤ c2 ∧ kU8.C w' A2 nb body ∧ Below w.heap.size w w' := by
 subst hn
 subst hnb
 refine (rtake_calls A c b w hC hc hby hl).mono ?_
 rw [ht]
 rintro e w' ⟨A2, c2, rfl, h1, h2, hb⟩
 exact ⟨A2, c2, rfl, h1, h2.1 _ (Kd.C_below hC hb), hb⟩
def ZIn (W : World) (g o : Nat) : Prop := ∃ (A : Option Addr) (n c : Nat) (z : List Int), W.cell? ⟨g, o, none⟩ = some (.slice A n c) ∧ z.length = n ∧ n ≤ c ∧ By z ∧ n ≤ 1000000 ∧ kU8.C W A n z
def TellIn (W : World) (g o : Nat) (j n p v sl : Int) (l : List Blk) (A : Option Addr) (nx c : Nat) (ct : Crt) (D : Option Addr) (mx d : Nat) : Prop :=
 (W.cell? ⟨g, o, none⟩ = some (.int .i64 j) ∧ W.cell? ⟨g, o + 1, none⟩ = some (.int .u64 n) ∧ W.cell? ⟨g, o + 2, none⟩ = some (.int .i64 p) ∧ W.cell? ⟨g, o + 3, none⟩ = some (.int .i64 v) ∧ W.cell? ⟨g, o + 4, none⟩ = some (.int .i64 sl) ∧ W.cell? ⟨g, o + 5, none⟩ = some (.slice A nx c) ∧ W.cell? ⟨g, o + 6, none⟩ = some (.slice D mx d)) ∧ kBlk.C W A nx l ∧ kPs.C W D mx ct
set_option maxHeartbeats 8000000 in
set_option maxRecDepth 100000 in
theorem walk (w : World) (cs : Array Value) (x : Tel) (hK : kTell.K w x cs.toList) (hok : TellOk x) (cs2 : Array Value) (y : Spc) (hK2 : kSpec.K w y cs2.toList) (hok2 : SpecOk y)
 (Am : Option Addr) (cm : Nat) (ms : List Int) (hCm : kU8.C w Am ms.length ms) (hcm : ms.length ≤ cm) (hmm : ms.length * 1 ≤ 140737488351232) (hwm : ∀ x ∈ ms, (Lit.int .u8 x).wf = true)
 (Ab : Option Addr) (cb : Nat) (b : List Int) (hCb : kU8.C w Ab b.length b) (hcb : b.length ≤ cb) (hmb : b.length * 1 ≤ 140737488351232) (hwb : ∀ x ∈ b, (Lit.int .u8 x).wf = true)
 (Ak : Option Addr) (ck : Nat) (ks : List Int) (hCk : kI.C w Ak ks.length ks) (hck : ks.length ≤ ck) (hmk : ks.length * 8 ≤ 140737488351232) (hwk : ∀ x ∈ ks, (Lit.int .i64 x).wf = true)
 (At : Option Addr) (ct' : Nat) (ts : List Int) (hCt : kU8.C w At ts.length ts) (hct' : ts.length ≤ ct') (hmt : ts.length * 1 ≤ 140737488351232) (hwt : ∀ x ∈ ts, (Lit.int .u8 x).wf = true) :
 Calls Try.prog 4 #[.agg cs, .agg cs2, .slice Am ms.length cm, .slice Ab b.length cb, .slice Ak ks.length ck, .slice At ts.length ct'] w fun e w' => e = .returned (.bool true) ∧ Below w.heap.size w w' := by
 have mixed : Try.prog.follows .mixedOrders = true := by kernel_rfl
 obtain ⟨j, n, ⟨p, v, sl, l⟩, ct⟩ := x
 obtain ⟨P, V, Nb, bl⟩ := y
 obtain ⟨A0, c0, D0, d0, e0, hlc0, hC0, hld0, hD0⟩ := tell_K hK
 obtain ⟨A1, c1, e1, hlc1, hC1⟩ := spec_K hK2
 obtain rfl : cs = #[.int .i64 j, .int .u64 n, .int .i64 p, .int .i64 v, .int .i64 sl, .slice A0 l.length c0, .slice D0 ct.length d0] := by cases cs; simp_all
 obtain rfl : cs2 = #[.int .u8 P, .int .u8 V, .int .u8 Nb, .slice A1 bl.length c1] := by cases cs2; simp_all
 obtain ⟨hj, hn, hp, hv, hsl, hR⟩ := hok
 obtain ⟨hP, hV, hN, hbl⟩ := hok2
 simp only at hj hn hp hv hsl hR hP hV hN hbl
 have HC0 := aM hC0
 have HD0 := aM hD0
 have HC1 := aM hC1
 have HCM := aM hCm
 have HCB := aM hCb
 have HCK := aM hCk
 have HCT := aM hCt
 have HR := aM hR
 have HBL := aM hbl
 have HYM := aM (show By ms from fun x hx => wf_u8 (hwm x hx))
 have HYB := aM (show By b from fun x hx => wf_u8 (hwb x hx))
 have HYT := aM (show By ts from fun x hx => wf_u8 (hwt x hx))
 have hs1 : (w.alloc (.cells #[.int .i64 j, .int .u64 n, .int .i64 p, .int .i64 v, .int .i64 sl, .slice A0 l.length c0, .slice D0 ct.length d0] 57)).heap.size = w.heap.size + 1 := World.size_alloc _ _
 have hs2 : ((w.alloc (.cells #[.int .i64 j, .int .u64 n, .int .i64 p, .int .i64 v, .int .i64 sl, .slice A0 l.length c0, .slice D0 ct.length d0] 57)).alloc (.cells #[.int .u8 P, .int .u8 V, .int .u8 Nb, .slice A1 bl.length c1] 30)).heap.size = w.heap.size + 2 := by rw [World.size_alloc, hs1]
 have HS2 := aM hs2
 have HB2 := aM (show Below w.heap.size w ((w.alloc (.cells #[.int .i64 j, .int .u64 n, .int .i64 p, .int .i64 v, .int .i64 sl, .slice A0 l.length c0, .slice D0 ct.length d0] 57)).alloc (.cells #[.int .u8 P, .int .u8 V, .int .u8 Nb, .slice A1 bl.length c1] 30)) from ((Below.refl _ _).alloc (Nat.le_refl _) _).alloc (by rw [hs1]; omega) _)
 have HX := aM (show ∀ W', Below (w.heap.size + 2) ((w.alloc (.cells #[.int .i64 j, .int .u64 n, .int .i64 p, .int .i64 v, .int .i64 sl, .slice A0 l.length c0, .slice D0 ct.length d0] 57)).alloc (.cells #[.int .u8 P, .int .u8 V, .int .u8 Nb, .slice A1 bl.length c1] 30)) W' → W'.heap[w.heap.size]? = some (.cells #[.int .i64 j, .int .u64 n, .int .i64 p, .int .i64 v, .int .i64 sl, .slice A0 l.length c0, .slice D0 ct.length d0] 57 (0, 0)) ∧ TellC W' w.heap.size j n p v sl (.slice A0 l.length c0) (.slice D0 ct.length d0) ∧ W'.cell? ⟨w.heap.size + 1, 0, none⟩ = some (.int .u8 P) ∧ W'.cell? ⟨w.heap.size + 1, 1, none⟩ = some (.int .u8 V) ∧ W'.cell? ⟨w.heap.size + 1, 2, none⟩ = some (.int .u8 Nb) ∧ W'.cell? ⟨w.heap.size + 1, 3, none⟩ = some (.slice A1 bl.length c1) from fun W' h => by
  obtain ⟨g, g'⟩ := two_cells h
  exact ⟨g, ⟨cell_at g 0 _ rfl, cell_at g 1 _ rfl, cell_at g 2 _ rfl, cell_at g 3 _ rfl, cell_at g 4 _ rfl, cell_at g 5 _ rfl, cell_at g 6 _ rfl⟩, cell_at g' 0 _ rfl, cell_at g' 1 _ rfl, cell_at g' 2 _ rfl, cell_at g' 3 _ rfl⟩)
 clear hC0 hD0 hC1 hCm hCb hCk hCt hR hbl hwm hwb hwk hwt hs1 hs2 hK hK2 e0 e1 hmm hmb hmk hmt
 obtain ⟨W2, hW2⟩ : ∃ W2, W2 = (w.alloc (.cells #[.int .i64 j, .int .u64 n, .int .i64 p, .int .i64 v, .int .i64 sl, .slice A0 l.length c0, .slice D0 ct.length d0] 57)).alloc (.cells #[.int .u8 P, .int .u8 V, .int .u8 Nb, .slice A1 bl.length c1] 30) := ⟨_, rfl⟩
 rw [← hW2] at HS2 HB2 HX
 go_enter Try.func4, Try.ntmps4
 go_upto_region 1 with fail
 rw [← hW2]
 have hz2 := HS2.out
 clear hW2
 go_upto_region 3 with (go_at_call 10; refine (awake_asks _).mono ?_; rintro _ w3 ⟨rfl, hb⟩; have HB3 := aM (show Below (w.heap.size + 2) W2 w3 from hb.mono (by omega)); clear hb)
 have hz3 : w.heap.size + 2 ≤ w3.heap.size := by have := HB3.out.size; omega
 obtain ⟨-, ⟨x0, x1, x2, x3, x4, x5, x6⟩, y0, y1, y2, y3⟩ := HX.out w3 HB3.out
 by_cases hb2 : 2000 < b.length
 · have d1 : decide ((2000 : Int) < (b.length : Int)) = true := decide_eq_true (by omega)
   have d1' : decide (2000 < b.length) = true := decide_eq_true (by omega)
   go_wp2_with (go_at_call 11; refine (long_calls l A0 c0 _ (Kd.C_below HC0.out (HB2.out.trans (HB3.out.mono (by omega))))).mono ?_; rintro _ w4 ⟨bo, rfl, hbo, hb⟩; have HB4 := aM (show Below (w.heap.size + 2) W2 w4 from HB3.out.trans (hb.mono hz3)); have HBO := aM hbo; clear hb hbo x0 x1 x2 x3 x4 x5 x6 y0 y1 y2 y3; obtain ⟨-, ⟨x0, x1, x2, x3, x4, x5, x6⟩, y0, y1, y2, y3⟩ := HX.out w4 HB4.out; cases bo)
   all_goals (go_ret; exact ⟨rfl, HB2.out.trans (HB4.out.mono (by omega))⟩)
 have d1 : decide ((2000 : Int) < (b.length : Int)) = false := decide_eq_false (by omega)
 by_cases hc30 : 30 < ct.length
 · have d2 : decide ((30 : Int) < (ct.length : Int)) = true := decide_eq_true (by omega)
   go_wp2_with (go_at_call 11; refine (long_calls l A0 c0 _ (Kd.C_below HC0.out (HB2.out.trans (HB3.out.mono (by omega))))).mono ?_; rintro _ w4 ⟨bo, rfl, hbo, hb⟩; have HB4 := aM (show Below (w.heap.size + 2) W2 w4 from HB3.out.trans (hb.mono hz3)); have HBO := aM hbo; clear hb hbo x0 x1 x2 x3 x4 x5 x6 y0 y1 y2 y3; obtain ⟨-, ⟨x0, x1, x2, x3, x4, x5, x6⟩, y0, y1, y2, y3⟩ := HX.out w4 HB4.out; cases bo)
   all_goals (go_ret; exact ⟨rfl, HB2.out.trans (HB4.out.mono (by omega))⟩)
 have d2 : decide ((30 : Int) < (ct.length : Int)) = false := decide_eq_false (by omega)
 go_upto_if 51 with (go_at_call 11; refine (long_calls l A0 c0 _ (Kd.C_below HC0.out (HB2.out.trans (HB3.out.mono (by omega))))).mono ?_; rintro _ w4 ⟨bo, rfl, hbo, hb⟩; have HB4 := aM (show Below (w.heap.size + 2) W2 w4 from HB3.out.trans (hb.mono hz3)); have HBO := aM hbo; clear hb hbo x0 x1 x2 x3 x4 x5 x6 y0 y1 y2 y3; obtain ⟨-, ⟨x0, x1, x2, x3, x4, x5, x6⟩, y0, y1, y2, y3⟩ := HX.out w4 HB4.out; cases bo)
 rotate_left
 · go_wp2
   go_ret
   exact ⟨rfl, HB2.out.trans (HB4.out.mono (by omega))⟩
 have hl101 := (HBO.out (by trivial)).1
 clear HBO
 have hz4 : w.heap.size + 2 ≤ w4.heap.size := by have := HB4.out.size; omega
 go_wp2_with fail
 clear x0 x1 x2 x3 x4 x5 x6 y0 y1 y2 y3 d1 d2
 have hbl2 : b.length ≤ 2000 := by omega
 have hcl30 : ct.length ≤ 30 := by omega
 clear hb2 hc30
 go_loopw [55] (fun vi wr => ∃ i : Nat, i ≤ ct.length ∧ vi = .int .i64 i ∧ Aside0 (∀ (k : Nat) (ps : List Pr), k < i → ct[k]? = some ps → ps.length ≤ 200) ∧ Aside0 (Below (w.heap.size + 2) W2 wr)) (fun vi _ => ct.length - (intOf vi).toNat)
 case atStart => exact ⟨0, by omega, rfl, ⟨fun k ps h => absurd h (by omega)⟩, HB4⟩
 case round =>
  obtain ⟨wz, hwz⟩ : ∃ wz, wz = wr := ⟨_, rfl⟩
  subst hwz
  obtain ⟨i, hi, rfl, HS, HZ⟩ := hrel
  by_cases hil : i < ct.length
  · obtain ⟨ps, hps⟩ : ∃ ps, ct[i]? = some ps := ⟨_, List.getElem?_eq_getElem hil⟩
    obtain ⟨adD, AA, cc, rfl, hcell, hpc, -⟩ := crt_cells (Kd.C_below HD0.out (HB2.out.trans (HZ.out.mono (by omega)))) hps
    obtain ⟨np, hnp⟩ : ∃ np, ps.length = np := ⟨_, rfl⟩
    rw [hnp] at hcell hpc
    by_cases h200 : 200 < np
    · have d3 : decide ((200 : Int) < (np : Int)) = true := decide_eq_true (by omega)
      clear hps hnp
      go_wp2_with fail
      go_ret
      exact ⟨rfl, HB2.out.trans (HZ.out.mono (by omega))⟩
    · have d3 : decide ((200 : Int) < (np : Int)) = false := decide_eq_false (by omega)
      have HN := aM (show ∀ (k : Nat) (ps : List Pr), k < i + 1 → ct[k]? = some ps → ps.length ≤ 200 from fun k qs hk hq => by
       by_cases hki : k = i
       · subst hki
         rw [hps] at hq
         injection hq with hq
         subst hq
         omega
       · exact HS.out k qs (by omega) hq)
      clear hps hnp HS
      go_wp2_with fail
      go_roundw
      case rel => exact ⟨i + 1, by omega, by go_num, HN, HZ⟩
      case measure => simp [intOf]; omega
  · obtain rfl : ct.length = i := by omega
    have HPS := aM (show ∀ ps ∈ ct, ps.length ≤ 1000 from fun ps hp => by
     obtain ⟨k, hk⟩ := List.getElem?_of_mem hp
     have := HS.out k ps (List.getElem?_eq_some_iff.1 hk).1 hk
     omega)
    clear HS HB4 hi hil hz3 HB3
    have hz4 : w.heap.size + 2 ≤ wz.heap.size := by have := HZ.out.size; omega
    obtain ⟨hbx, ⟨x0, x1, x2, x3, x4, x5, x6⟩, y0, y1, y2, y3⟩ := HX.out wz HZ.out
    have HBX := aM hbx
    clear hbx
    have HA4 := aM (HB2.out.trans (HZ.out.mono (by omega)))
    go_upto_region 12 with fail
    clear x0 x1 x2 x3 x4 x5 x6 y0 y1 y2 y3
    obtain ⟨gc, hgc⟩ : ∃ gc, wz.heap.size = gc := ⟨_, rfl⟩
    obtain ⟨W5, hW5⟩ : ∃ W5, W5 = wz.alloc (.cells #[.int .i64 j, .int .u64 n, .int .i64 p, .int .i64 v, .int .i64 sl, .slice A0 l.length c0, .slice D0 ct.length d0] 57) := ⟨_, rfl⟩
    have HB5 := aM (show Below wz.heap.size wz W5 by rw [hW5]; exact (Below.refl _ _).alloc (Nat.le_refl _) _)
    have HC5 := aM (show W5.heap[gc]? = some (.cells #[.int .i64 j, .int .u64 n, .int .i64 p, .int .i64 v, .int .i64 sl, .slice A0 l.length c0, .slice D0 ct.length d0] 57 (0, 0)) by rw [hW5, ← hgc, heap_alloc_new])
    have HS5 := aM (show W5.heap.size = gc + 1 by rw [hW5, World.size_alloc, hgc])
    have HA5 := aM (HA4.out.trans (HB5.out.mono HA4.out.size))
    have HZ5 := aM (show Below (w.heap.size + 2) W2 W5 from HZ.out.trans (HB5.out.mono hz4))
    rw [← hW5]
    rw [hgc] at hz4 ⊢
    obtain ⟨-, ⟨x0, x1, x2, x3, x4, x5, x6⟩, y0, y1, y2, y3⟩ := HX.out W5 HZ5.out
    clear hW5 hgc HB5
    go_upto_region 13 with (go_at_call 21; refine (made5_calls P V Nb 1 3 A1 c1 bl Am cm ms W5 hP hV hN (by decide) (by decide) (Kd.C_below HC1.out HA5.out) hlc1 HBL.out (Kd.C_below HCM.out HA5.out) HYM.out).mono ?_; rintro _ w6 ⟨S, adB, capB, bs, rfl, hRm, hce, hbr, hl7, hb⟩; obtain ⟨p5, hp5⟩ : ∃ q, P % 5 = q := ⟨_, rfl⟩; rw [hp5] at hce ⊢; rw [show (3 + (1 : Int) % 6) = 4 from rfl] at hce ⊢; obtain ⟨nb, hnb⟩ : ∃ nb, bs.length = nb := ⟨_, rfl⟩; rw [hnb] at hRm ⊢; have HNB := aM hnb; have HRM := aM hRm; have HCE := aM hce; have HBR := aM hbr; have HL7 := aM hl7; have HB6 := aM hb; have hc6 := (hb.block gc (by have := HS5.out; omega)).trans HC5.out; have HC6 := aM hc6; obtain ⟨⟨r0, r1, r2, r3, r4, r5, r6⟩, rz⟩ := cells7 hc6; clear hp5 hRm hce hbr hl7 hb hnb hc6 x0 x1 x2 x3 x4 x5 x6 y0 y1 y2 y3)
    have hl7 := HL7.out
    have hnb7 : nb ≤ 7 := by have := HNB.out; omega
    obtain ⟨W7, hW7⟩ : ∃ W7, W7 = (((w6.setCell ⟨gc, 2, none⟩ (.int .i64 p5)).setCell ⟨gc, 3, none⟩ (.int .i64 4)).setCell ⟨gc, 4, none⟩ (.int .i64 S)).setCell ⟨gc, 5, none⟩ (.slice (some adB) nb capB) := ⟨_, rfl⟩
    have hfar : ∀ i, i ≠ gc → W7.heap[i]? = w6.heap[i]? := fun i h1 => by
     rw [hW7, Below.heap_setCell _ _ _ _ (show i ≠ gc from h1), Below.heap_setCell _ _ _ _ (show i ≠ gc from h1), Below.heap_setCell _ _ _ _ (show i ≠ gc from h1), Below.heap_setCell _ _ _ _ (show i ≠ gc from h1)]
    have HC7 := aM (show W7.heap[gc]? = some (.cells #[.int .i64 j, .int .u64 n, .int .i64 p5, .int .i64 4, .int .i64 S, .slice (some adB) nb capB, .slice D0 ct.length d0] 57 (0, 0)) by
     rw [hW7]
     exact blk_put (blk_put (blk_put (blk_put HC6.out 2 (.int .i64 p5) (show _ = #[.int .i64 j, .int .u64 n, .int .i64 p5, .int .i64 v, .int .i64 sl, .slice A0 l.length c0, .slice D0 ct.length d0] from rfl)) 3 (.int .i64 4) (show _ = #[.int .i64 j, .int .u64 n, .int .i64 p5, .int .i64 4, .int .i64 sl, .slice A0 l.length c0, .slice D0 ct.length d0] from rfl)) 4 (.int .i64 S) (show _ = #[.int .i64 j, .int .u64 n, .int .i64 p5, .int .i64 4, .int .i64 S, .slice A0 l.length c0, .slice D0 ct.length d0] from rfl)) 5 (.slice (some adB) nb capB) rfl)
    have HA7 := aM (show Below w.heap.size w W7 by
     rw [hW7]
     have h6 := HA5.out.trans (HB6.out.mono HA5.out.size)
     have hg : w.heap.size ≤ gc := by omega
     exact (((h6.setCell (p := ⟨gc, 2, none⟩) hg _).setCell (p := ⟨gc, 3, none⟩) hg _).setCell (p := ⟨gc, 4, none⟩) hg _).setCell (p := ⟨gc, 5, none⟩) hg _)
    have HX7 := aM (show W7.heap[w.heap.size]? = some (.cells #[.int .i64 j, .int .u64 n, .int .i64 p, .int .i64 v, .int .i64 sl, .slice A0 l.length c0, .slice D0 ct.length d0] 57 (0, 0)) by
     rw [hfar _ (by omega)]
     exact (HB6.out.block _ (by have := HS5.out; omega)).trans (HX.out W5 HZ5.out).1)
    have HRM7 := aM (show kBlk.R 84 W7 (gc + 1) (fun k => k < W7.heap.size) (.slice (some adB) nb capB) bs by
     have h0 := HRM.out
     rw [HS5.out] at h0
     have h := Kd.R_step (w1 := W7) (Kd.R_mono (Kd.R_bound h0) (ok' := fun k => gc + 1 ≤ k) (fun k hk => hk.2.1)) (fun k hk hl => hfar k (by omega))
     exact Kd.R_mono (Kd.R_bound h) (fun k hk => hk.2.2.1))
    have HS7 := aM (show gc + 1 ≤ W7.heap.size by
     rw [hW7, size_set, size_set, size_set, size_set]
     have h1 := HB6.out.size
     have h2 := HS5.out
     omega)
    rw [← hW7]
    clear hW7 hfar HRM HB6 HC6 HC5 HS5 HA5 HZ5 r0 r1 r2 r3 r4 r5 r6 rz HL7 HX HA4 HBX HZ HB2 HS2
    obtain ⟨⟨q0, q1, q2, q3, q4, q5, q6⟩, -⟩ := cells7 HC7.out
    go_upto_region 14 with fail
    clear q0 q1 q2 q3 q4 q5 q6
    obtain ⟨gd, hgd⟩ : ∃ gd, W7.heap.size = gd := ⟨_, rfl⟩
    have hgd1 : gc + 1 ≤ gd := by have := HS7.out; omega
    obtain ⟨W8, hW8⟩ : ∃ W8, W8 = W7.alloc (.cells #[.int .i64 j, .int .u64 n, .int .i64 p5, .int .i64 4, .int .i64 S, .slice (some adB) nb capB, .slice D0 ct.length d0] 57) := ⟨_, rfl⟩
    have HB8 := aM (show Below W7.heap.size W7 W8 by rw [hW8]; exact (Below.refl _ _).alloc (Nat.le_refl _) _)
    have HD8 := aM (show W8.heap[gd]? = some (.cells #[.int .i64 j, .int .u64 n, .int .i64 p5, .int .i64 4, .int .i64 S, .slice (some adB) nb capB, .slice D0 ct.length d0] 57 (0, 0)) by rw [hW8, ← hgd, heap_alloc_new])
    have HS8 := aM (show W8.heap.size = gd + 1 by rw [hW8, World.size_alloc, hgd])
    have HX8 := aM ((HB8.out.block w.heap.size (by omega)).trans HX7.out)
    have HC8 := aM ((HB8.out.block gc (by omega)).trans HC7.out)
    have HA8 := aM (HA7.out.trans (HB8.out.mono HA7.out.size))
    have HRM8 := aM (show kBlk.R 84 W8 (gc + 1) (fun k => k < gd) (.slice (some adB) nb capB) bs by rw [← hgd]; exact Kd.R_below HRM7.out HB8.out)
    rw [← hW8]
    rw [hgd] at HB8 ⊢
    clear hW8 hgd HX7 HC7 HA7 HRM7 HS7
    obtain ⟨⟨r0, r1, r2, r3, r4, r5, r6⟩, -⟩ := cells7 HX8.out
    obtain ⟨⟨q0, q1, q2, q3, q4, q5, q6⟩, qz⟩ := cells7 HD8.out
    obtain ⟨iu, hiu⟩ : ∃ i, IntKind.u64.wrap j = i := ⟨_, rfl⟩
    have hiu0 := (wrU64_range j).1
    rw [hiu] at hiu0
    obtain ⟨jd, hjd⟩ : ∃ q, iu % 16 = q := ⟨_, rfl⟩
    have hjd0 : 0 ≤ jd ∧ jd < 16 := by omega
    have HJD := aM hjd
    clear hjd
    go_upto_region 15 with fail
    rw [HJD.out]
    clear hiu hiu0 HJD r0 r1 r2 r3 r4 r5 r6 q0 q1 q2 q3 q4 q5 q6 qz
    obtain ⟨W9, hW9⟩ : ∃ W9, W9 = W8.setCell ⟨gd, 0, none⟩ (.int .i64 jd) := ⟨_, rfl⟩
    have HD9 := aM (show W9.heap[gd]? = some (.cells #[.int .i64 jd, .int .u64 n, .int .i64 p5, .int .i64 4, .int .i64 S, .slice (some adB) nb capB, .slice D0 ct.length d0] 57 (0, 0)) by rw [hW9]; exact blk_put HD8.out 0 (.int .i64 jd) rfl)
    have hfar : ∀ i, i ≠ gd → W9.heap[i]? = W8.heap[i]? := fun i h1 => by rw [hW9, Below.heap_setCell _ _ _ _ (show i ≠ gd from h1)]
    have HX9 := aM ((hfar w.heap.size (by omega)).trans HX8.out)
    have HC9 := aM ((hfar gc (by omega)).trans HC8.out)
    have HA9 := aM (show Below w.heap.size w W9 by rw [hW9]; exact HA8.out.setCell (p := ⟨gd, 0, none⟩) (by show w.heap.size ≤ gd; omega) _)
    have HK9 := aM (show Keep (fun i => i = gd) W8 W9 by rw [hW9]; exact (Keep.refl _ _).setCell ⟨gd, 0, none⟩ _ (fun _ => rfl))
    have HS9 := aM (show W9.heap.size = gd + 1 by rw [hW9, size_set]; exact HS8.out)
    rw [← hW9]
    clear hW9 hfar HD8 HX8 HC8 HA8 HS8
    have z1 : (W9.alloc (.cells #[.int .i64 1, .int .i64 2] 61)).heap.size = W9.heap.size + 1 := World.size_alloc _ _
    have z2 : ((W9.alloc (.cells #[.int .i64 1, .int .i64 2] 61)).alloc (.cells #[.int .i64 3, .int .i64 4000] 61)).heap.size = W9.heap.size + 1 + 1 := by rw [World.size_alloc, z1]
    have z3 : (((W9.alloc (.cells #[.int .i64 1, .int .i64 2] 61)).alloc (.cells #[.int .i64 3, .int .i64 4000] 61)).alloc (.cells #[.slice (some ⟨W9.heap.size, 0, none⟩) 1 1, .slice none 0 0, .slice (some ⟨W9.heap.size + 1, 0, none⟩) 1 1] 58)).heap.size = W9.heap.size + 1 + 1 + 1 := by rw [World.size_alloc, z2]
    have hs9 := HS9.out
    have hold : ∀ i, i < gd + 1 → (((W9.alloc (.cells #[.int .i64 1, .int .i64 2] 61)).alloc (.cells #[.int .i64 3, .int .i64 4000] 61)).alloc (.cells #[.slice (some ⟨W9.heap.size, 0, none⟩) 1 1, .slice none 0 0, .slice (some ⟨W9.heap.size + 1, 0, none⟩) 1 1] 58)).heap[i]? = W9.heap[i]? := fun i h => by rw [heap_alloc_old _ _ (by rw [z2]; omega), heap_alloc_old _ _ (by rw [z1]; omega), heap_alloc_old _ _ (by omega)]
    have HDA := aM ((hold gd (by omega)).trans HD9.out)
    have HG1 := aM (show (((W9.alloc (.cells #[.int .i64 1, .int .i64 2] 61)).alloc (.cells #[.int .i64 3, .int .i64 4000] 61)).alloc (.cells #[.slice (some ⟨W9.heap.size, 0, none⟩) 1 1, .slice none 0 0, .slice (some ⟨W9.heap.size + 1, 0, none⟩) 1 1] 58)).heap[W9.heap.size]? = some (.cells #[.int .i64 1, .int .i64 2] 61 (0, 0)) by rw [heap_alloc_old _ _ (by rw [z2]; omega), heap_alloc_old _ _ (by rw [z1]; omega), heap_alloc_new])
    have HG2 := aM (show (((W9.alloc (.cells #[.int .i64 1, .int .i64 2] 61)).alloc (.cells #[.int .i64 3, .int .i64 4000] 61)).alloc (.cells #[.slice (some ⟨W9.heap.size, 0, none⟩) 1 1, .slice none 0 0, .slice (some ⟨W9.heap.size + 1, 0, none⟩) 1 1] 58)).heap[W9.heap.size + 1]? = some (.cells #[.int .i64 3, .int .i64 4000] 61 (0, 0)) by rw [heap_alloc_old _ _ (by rw [z2]; omega), ← z1, heap_alloc_new])
    have HG3 := aM (show (((W9.alloc (.cells #[.int .i64 1, .int .i64 2] 61)).alloc (.cells #[.int .i64 3, .int .i64 4000] 61)).alloc (.cells #[.slice (some ⟨W9.heap.size, 0, none⟩) 1 1, .slice none 0 0, .slice (some ⟨W9.heap.size + 1, 0, none⟩) 1 1] 58)).heap[W9.heap.size + 1 + 1]? = some (.cells #[.slice (some ⟨W9.heap.size, 0, none⟩) 1 1, .slice none 0 0, .slice (some ⟨W9.heap.size + 1, 0, none⟩) 1 1] 58 (0, 0)) by rw [← z2, heap_alloc_new])
    have HLC := aM (lit_cert HG1.out HG2.out HG3.out)
    have HBA := aM (show Below W9.heap.size W9 (((W9.alloc (.cells #[.int .i64 1, .int .i64 2] 61)).alloc (.cells #[.int .i64 3, .int .i64 4000] 61)).alloc (.cells #[.slice (some ⟨W9.heap.size, 0, none⟩) 1 1, .slice none 0 0, .slice (some ⟨W9.heap.size + 1, 0, none⟩) 1 1] 58)) from (((Below.refl _ _).alloc (Nat.le_refl _) _).alloc (by rw [z1]; omega) _).alloc (by rw [z2]; omega) _)
    have HS3 := aM (show (((W9.alloc (.cells #[.int .i64 1, .int .i64 2] 61)).alloc (.cells #[.int .i64 3, .int .i64 4000] 61)).alloc (.cells #[.slice (some ⟨W9.heap.size, 0, none⟩) 1 1, .slice none 0 0, .slice (some ⟨W9.heap.size + 1, 0, none⟩) 1 1] 58)).heap.size = gd + 4 by rw [z3, hs9])
    have HSG := aM (show W9.heap.size + 1 + 1 = gd + 3 ∧ W9.heap.size = gd + 1 by rw [hs9]; exact ⟨rfl, rfl⟩)
    have q6 := cell_at HDA.out 6 _ rfl
    have qz := blk_frozen HDA.out 6
    have HLO := aM hold
    clear z1 z2 z3 hs9 hold HLC
    go_upto_region 16 with fail
    clear q6 qz
    obtain ⟨WA, hWA⟩ : ∃ V, V = (((W9.alloc (.cells #[.int .i64 1, .int .i64 2] 61)).alloc (.cells #[.int .i64 3, .int .i64 4000] 61)).alloc (.cells #[.slice (some ⟨W9.heap.size, 0, none⟩) 1 1, .slice none 0 0, .slice (some ⟨W9.heap.size + 1, 0, none⟩) 1 1] 58)) := ⟨_, rfl⟩
    rw [← hWA] at HDA HG1 HG2 HG3 HBA HS3 HLO ⊢
    clear hWA
    obtain ⟨adC, hadC⟩ : ∃ q : Addr, q = ⟨W9.heap.size + 1 + 1, 0, none⟩ := ⟨_, rfl⟩
    rw [← hadC]
    obtain ⟨WB, hWB⟩ : ∃ V, V = WA.setCell ⟨gd, 6, none⟩ (.slice (some adC) 3 3) := ⟨_, rfl⟩
    have hfar : ∀ i, i ≠ gd → WB.heap[i]? = WA.heap[i]? := fun i h1 => by rw [hWB, Below.heap_setCell _ _ _ _ (show i ≠ gd from h1)]
    have HDB := aM (show WB.heap[gd]? = some (.cells #[.int .i64 jd, .int .u64 n, .int .i64 p5, .int .i64 4, .int .i64 S, .slice (some adB) nb capB, .slice (some adC) 3 3] 57 (0, 0)) by rw [hWB]; exact blk_put HDA.out 6 _ rfl)
    have hXB := (hfar w.heap.size (by omega)).trans ((HLO.out w.heap.size (by omega)).trans HX9.out)
    have hCB := (hfar gc (by omega)).trans ((HLO.out gc (by omega)).trans HC9.out)
    have HLC := aM (show kPs.C WB (some adC) 3 crt0 by
     have h := HSG.out
     rw [hadC]
     exact lit_cert ((hfar _ (by omega)).trans HG1.out) ((hfar _ (by omega)).trans HG2.out) ((hfar _ (by omega)).trans HG3.out))
    have HMB := aM (show kBlk.C WB (some adB) nb bs by
     have h := Kd.R_step (w1 := WB) HRM8.out (fun k hk hl => (hfar k (by omega)).trans ((HLO.out k (by omega)).trans (HK9.out.block k hl (by omega))))
     obtain ⟨A', c', e, -, hC⟩ := Kd.R_reads h
     injection e with e1 e2 e3
     subst e1
     rw [HNB.out] at hC
     exact hC)
    have HAB := aM (show Below w.heap.size w WB by
     rw [hWB]
     exact (HA9.out.trans (HBA.out.mono HA9.out.size)).setCell (p := ⟨gd, 6, none⟩) (by show w.heap.size ≤ gd; omega) _)
    have HSB := aM (show WB.heap.size = gd + 4 by rw [hWB, size_set]; exact HS3.out)
    have HXB := aM hXB
    have HCB2 := aM hCB
    rw [← hWB]
    clear hWB hfar hXB hCB hadC HDA HG1 HG2 HG3 HBA HS3 HLO HK9 HRM8 HX9 HC9 HA9 HSG HS9 HD9 HB8
    obtain ⟨⟨x0, x1, x2, x3, x4, x5, x6⟩, -⟩ := cells7 HXB.out
    obtain ⟨⟨y0, y1, y2, y3, y4, y5, y6⟩, -⟩ := cells7 HCB2.out
    obtain ⟨⟨z0, z1, z2, z3, z4, z5, z6⟩, -⟩ := cells7 HDB.out
    go_upto_block 2 with fail
    clear x0 x1 x2 x3 x4 x5 x6 y0 y1 y2 y3 y4 y5 y6 z0 z1 z2 z3 z4 z5 z6
    obtain ⟨WX, hWX⟩ : ∃ WX, WX = WB.alloc (.cells #[.int .i64 j, .int .u64 n, .int .i64 p, .int .i64 v, .int .i64 sl, .slice A0 l.length c0, .slice D0 ct.length d0, .int .i64 j, .int .u64 n, .int .i64 p5, .int .i64 4, .int .i64 S, .slice (some adB) nb capB, .slice D0 ct.length d0, .int .i64 jd, .int .u64 n, .int .i64 p5, .int .i64 4, .int .i64 S, .slice (some adB) nb capB, .slice (some adC) 3 3] 57) := ⟨_, rfl⟩
    obtain ⟨gx, hgx⟩ : ∃ gx, WB.heap.size = gx := ⟨_, rfl⟩
    have hsx : WX.heap.size = gx + 1 := by rw [hWX, World.size_alloc, hgx]
    have HBX := aM (show Below w.heap.size w WX from by rw [hWX]; exact HAB.out.alloc HAB.out.size _)
    have hcw : certErr ct = certErr ct := rfl
    have HAT := aM (show ∀ i, i < 3 → ∀ W', Below (gx + 1) WX W' → ∃ jx px vx sx lx Ax nx cx ctx Dx mx dx, lx.length = nx ∧ ctx.length = mx ∧ TellIn W' gx (i * 7) jx n px vx sx lx Ax nx cx ctx Dx mx dx ∧ (∀ b ∈ lx, BlkR b) ∧ nx ≤ 100000 ∧ (∀ ps ∈ ctx, ps.length ≤ 1000) from fun i hi W' h => by
     have g := (h.block gx (by omega)).trans (show WX.heap[gx]? = some _ from by rw [hWX, ← hgx]; exact heap_alloc_new _ _)
     obtain ⟨g1, g2, g3⟩ := cells21 g
     have hA := Kd.C_below (HC0.out) (HBX.out.trans (h.mono (by have := HBX.out.size; omega)))
     have hD := Kd.C_below (HD0.out) (HBX.out.trans (h.mono (by have := HBX.out.size; omega)))
     have hM : kBlk.C W' (some adB) nb bs := Kd.C_below (show kBlk.C WX (some adB) nb bs from by rw [hWX]; exact Kd.C_alloc HMB.out _) (h.mono (by omega))
     have hL : kPs.C W' (some adC) 3 crt0 := Kd.C_below (show kPs.C WX (some adC) 3 crt0 from by rw [hWX]; exact Kd.C_alloc HLC.out _) (h.mono (by omega))
     rcases (by omega : i = 0 ∨ i = 1 ∨ i = 2) with rfl | rfl | rfl
     · exact ⟨j, p, v, sl, l, A0, l.length, c0, ct, D0, ct.length, d0, rfl, rfl, ⟨g1, hA, hD⟩, HR.out, by omega, HPS.out⟩
     · exact ⟨j, p5, 4, S, bs, some adB, nb, capB, ct, D0, ct.length, d0, HNB.out, rfl, ⟨g2, hM, hD⟩, fun b hb => (HBR.out b hb).1, by omega, HPS.out⟩
     · exact ⟨jd, p5, 4, S, bs, some adB, nb, capB, crt0, some adC, 3, 3, HNB.out, rfl, ⟨g3, hM, hL⟩, fun b hb => (HBR.out b hb).1, by omega, fun ps hp => by simp only [crt0, List.mem_cons, List.not_mem_nil, or_false] at hp; rcases hp with rfl | rfl | rfl <;> decide⟩)
    have HDX := aM (show ∀ W', Below (gx + 1) WX W' → W'.heap[gd]? = some (.cells #[.int .i64 jd, .int .u64 n, .int .i64 p5, .int .i64 4, .int .i64 S, .slice (some adB) nb capB, .slice (some adC) 3 3] 57 (0, 0)) from fun W' h => by
     have hgl := blk_lt HDB.out
     refine (h.block gd (by omega)).trans ?_
     rw [hWX, heap_alloc_old _ _ hgl]
     exact HDB.out)
    have HMX := aM (show kBlk.C WX (some adB) nb bs from by rw [hWX]; exact Kd.C_alloc HMB.out _)
    have HLX := aM (show kPs.C WX (some adC) 3 crt0 from by rw [hWX]; exact Kd.C_alloc HLC.out _)
    rw [hgx]
    rw [← hWX]
    clear hWX hgx hcw
    have HSX := aM hsx
    go_wp2_with fail
    go_loopw [86] (fun vi wr => ∃ i : Nat, i ≤ 3 ∧ vi = .int .i64 i ∧ Aside0 (Below (gx + 1) WX wr)) (fun vi _ => 3 - (intOf vi).toNat)
    case atStart => exact ⟨0, by omega, rfl, ⟨Below.refl _ _⟩⟩
    case round =>
     obtain ⟨wo, hwo⟩ : ∃ wo, wo = wr := ⟨_, rfl⟩
     subst hwo
     obtain ⟨i, hi, rfl, HZ⟩ := hrel
     have hzo : gx + 1 ≤ wo.heap.size := by have := HZ.out.size; omega
     by_cases hi3 : i < 3
     · obtain ⟨jx, px, vx, sx, lx, Ax, nx, cx, ctx, Dx, mx, dx, rfl, rfl, ⟨⟨x0, x1, x2, x3, x4, x5, x6⟩, hCx, hDx⟩, hRx, hlx, hpx⟩ := HAT.out i hi3 wo HZ.out
       have HCo := aM hCx
       have HDo := aM hDx
       have HRx := aM hRx
       have HPx := aM hpx
       have HAX := aM (fun W' (h : Below (wo.heap.size + 1) (wo.alloc (.cells #[.int .i64 jx, .int .u64 n, .int .i64 px, .int .i64 vx, .int .i64 sx, .slice Ax lx.length cx, .slice Dx ctx.length dx] 57)) W') => tell_box h)
       have HSZ := aM (World.size_alloc wo (.cells #[.int .i64 jx, .int .u64 n, .int .i64 px, .int .i64 vx, .int .i64 sx, .slice Ax lx.length cx, .slice Dx ctx.length dx] 57))
       have HZA := aM (show Below (gx + 1) WX (wo.alloc (.cells #[.int .i64 jx, .int .u64 n, .int .i64 px, .int .i64 vx, .int .i64 sx, .slice Ax lx.length cx, .slice Dx ctx.length dx] 57)) from HZ.out.alloc hzo _)
       obtain ⟨E, hE⟩ : ∃ E, tellErr (jx, n, (px, vx, sx, lx), ctx) = E := ⟨_, rfl⟩
       obtain ⟨fl, hfl⟩ : ∃ fl, tellL (jx, n, (px, vx, sx, lx), ctx) = fl := ⟨_, rfl⟩
       obtain ⟨nf, hnf⟩ : ∃ nf, fl.length = nf := ⟨_, rfl⟩
       have HE := aM hE
       have HFL := aM hfl
       have HNF := aM hnf
       clear hCx hDx hRx hpx hE hfl hnf
       by_cases hE0 : E = 0
       · subst hE0
         go_wp2_with (first
          | (go_at_call 22; refine (puttell_calls jx n px vx sx lx Ax cx ctx Dx dx _ hn.1 hn.2 (Kd.C_alloc HCo.out _) HRx.out hlx (Kd.C_alloc HDo.out _) HPx.out).mono ?_; rintro _ w1 ⟨hr1, hb1⟩; rw [HE.out] at hr1; obtain ⟨A6, c6, rfl, hl6, hC6⟩ := hr1.2 rfl; rw [HFL.out, HNF.out] at hC6 ⊢; have HC6 := aM hC6; have HB6 := aM hb1; clear hr1 hb1 hC6 hl6 x0 x1 x2 x3 x4 x5 x6; obtain ⟨y0, y1, y2, y3, y4, y5, y6⟩ := HAX.out w1 (HB6.out.mono (by rw [HSZ.out]; exact Nat.le_refl _)))
          | (go_at_call 23; refine (rtell_calls jx n px vx sx lx Ax cx ctx Dx dx _ hn.1 hn.2 (Kd.C_below (Kd.C_alloc HCo.out _) HB6.out) HRx.out hlx (Kd.C_below (Kd.C_alloc HDo.out _) HB6.out) HPx.out).mono ?_; rintro _ w2 ⟨hr2, hb2⟩; rw [HE.out] at hr2; obtain ⟨A7, c7, rfl, hl7, hC7⟩ := hr2.2 rfl; rw [HFL.out, HNF.out] at hC7 ⊢; have s1 := C_str (c := c6) (Kd.C_below HC6.out hb2); have s2 := C_str (c := c7) hC7; have HB6' := aM (HZA.out.trans (HB6.out.mono (by have h1 := HZA.out.size; have h2 := HSX.out; omega))); have HB7 := aM (HB6'.out.trans (hb2.mono (by have h1 := HB6'.out.size; have h2 := HSX.out; omega))); clear hr2 hb2 hC7 hl7))
         go_roundw
         case rel => exact ⟨i + 1, by omega, by go_num, HB7⟩
         case measure => simp [intOf]; omega
       · have hEb : (E == E) = true := by simp
         go_wp2_with (first
          | (go_at_call 22; refine (puttell_calls jx n px vx sx lx Ax cx ctx Dx dx _ hn.1 hn.2 (Kd.C_alloc HCo.out _) HRx.out hlx (Kd.C_alloc HDo.out _) HPx.out).mono ?_; rintro _ w1 ⟨hr1, hb1⟩; rw [HE.out] at hr1; obtain rfl := hr1.1 hE0; have HB6 := aM hb1; clear hr1 hb1 x0 x1 x2 x3 x4 x5 x6; obtain ⟨y0, y1, y2, y3, y4, y5, y6⟩ := HAX.out w1 (HB6.out.mono (by rw [HSZ.out]; exact Nat.le_refl _)))
          | (go_at_call 23; refine (rtell_calls jx n px vx sx lx Ax cx ctx Dx dx _ hn.1 hn.2 (Kd.C_below (Kd.C_alloc HCo.out _) HB6.out) HRx.out hlx (Kd.C_below (Kd.C_alloc HDo.out _) HB6.out) HPx.out).mono ?_; rintro _ w2 ⟨hr2, hb2⟩; rw [HE.out] at hr2; obtain rfl := hr2.1 hE0; have s1 := C_str (c := 0) (C_nil .u8 w2); have HB6' := aM (HZA.out.trans (HB6.out.mono (by have h1 := HZA.out.size; have h2 := HSX.out; omega))); have HB7 := aM (HB6'.out.trans (hb2.mono (by have h1 := HB6'.out.size; have h2 := HSX.out; omega))); clear hr2 hb2))
         go_roundw
         case rel => exact ⟨i + 1, by omega, by go_num, HB7⟩
         case measure => simp [intOf]; omega
     · obtain rfl : i = 3 := by omega
       have HBZ := aM (HBX.out.trans (HZ.out.mono (by have := HBX.out.size; omega)))
       obtain ⟨⟨z0, z1, z2, z3, z4, z5, z6⟩, -⟩ := cells7 (HDX.out wo HZ.out)
       have HMd : Aside0 (kBlk.C wo (some adB) bs.length bs) := ⟨by
        have h : kBlk.C wo (some adB) nb bs := Kd.C_below (HMX.out) (HZ.out.mono (by omega))
        rw [HNB.out]
        exact h⟩
       have HLd : Aside0 (kPs.C wo (some adC) crt0.length crt0) := ⟨Kd.C_below HLX.out (HZ.out.mono (by omega))⟩
       have hfit := tell_fit (l := bs) (ct := crt0) (j := jd) hjd0 hn HCE.out HBR.out (by rw [HNB.out]; exact hnb7) (by decide) (by decide) crt0_err
       have HEd := aM hfit
       have hlen := tellB_len (l := bs) (ct := crt0) (j := jd) hn HCE.out HBR.out (by rw [HNB.out]; exact hnb7) (by decide) (by decide)
       have HBD := aM (show ∀ b ∈ bs, BlkR b from fun b hb => (HBR.out b hb).1)
       have HP0 := aM (show ∀ ps ∈ crt0, ps.length ≤ 1000 from by decide)
       have hbl5 : bs.length ≤ 100000 := by rw [HNB.out]; omega
       obtain ⟨Y, hY⟩ : ∃ Y, tellL (jd, n, (p5, 4, S, bs), crt0) = Y := ⟨_, rfl⟩
       obtain ⟨D, hD⟩ : ∃ D, tellB (jd, n, (p5, 4, S, bs), crt0) = D := ⟨_, rfl⟩
       obtain ⟨ny, hny⟩ : ∃ ny, Y.length = ny := ⟨_, rfl⟩
       obtain ⟨nd, hnd⟩ : ∃ nd, D.length = nd := ⟨_, rfl⟩
       have hYD : layL 3 D = Y := by rw [← hD]; exact hY
       have hnd6 : nd ≤ 65536 := by rw [← hnd, ← hD]; omega
       have htk : takeL Y = (3, D, (ny : Int), 0) := by
        have h := take_lay (k := 3) (b := D) (rest := []) (by omega)
        rw [List.append_nil, hYD, hny] at h
        exact h
       have hny7 : ny ≤ 65600 := by
        have h1 := (putl_three (n := D.length) (by omega)).2
        rw [← hny, ← hYD, lay_len]
        omega
       have HYY := aM hY
       have HNY := aM hny
       have HND := aM hnd
       have HTK := aM htk
       have HYB1 := aM (show By Y from by rw [← hY]; exact lay_by (by decide) (tell_byB _))
       have HYB2 := aM (show By D from by rw [← hD]; exact tell_byB _)
       clear hfit hlen hY hD hny hnd hYD htk
       rw [← HNB.out] at z5
       have z6' : wo.cell? ⟨gd, 6, none⟩ = some (.slice (some adC) crt0.length 3) := z6
       clear z6
       obtain ⟨q0, hq0⟩ : ∃ q, crt0 = q := ⟨_, rfl⟩
       rw [hq0] at HLd HEd HP0 HYY z6'
       clear hq0
       go_upto_region 26 with (first
        | (go_at_call 23; refine (rtell_calls jd n p5 4 S bs (some adB) capB q0 (some adC) 3 _ hn.1 hn.2 HMd.out HBD.out hbl5 HLd.out HP0.out).mono ?_; rintro _ w1 ⟨hr1, hb1⟩; obtain ⟨Ay, cy, rfl, hly, hCy⟩ := hr1.2 HEd.out; rw [HYY.out, HNY.out] at hly hCy ⊢; have HCY := aM hCy; have HB1 := aM (HBZ.out.trans (hb1.mono HBZ.out.size)); clear hr1 hb1 hCy z0 z1 z2 z3 z4 z5 z6')
        | (go_at_call 15; refine (rtake_m Ay cy Y ny HNY.out 3 D nd HND.out (ny : Int) 0 HTK.out _ HCY.out hly HYB1.out (by omega)).mono ?_; rintro _ w2 ⟨Ad, cd, rfl, hld, hCd, hb2⟩; have HCD := aM hCd; have HCY2 := aM (Kd.C_below HCY.out hb2); have HB2' := aM (HB1.out.trans (hb2.mono HB1.out.size)); clear hb2 hCd))
       go_upto_block 4 with (first
        | (go_at_call 16; refine (turned_calls Y ks ts ny HNY.out Ay Ak At cy ck ct' _ HCY2.out hly HYB1.out (by omega) (Kd.C_below HCK.out HB2'.out) (Kd.C_below HCT.out HB2'.out) HYT.out).mono ?_; rintro _ w3 ⟨m3, A3, n3, c3, rfl, hm3, hy3, hn3, hc3, hC3, hb3⟩; have HC3 := aM hC3; have HM3 := aM hm3; have HY3 := aM hy3; have HCY3 := aM (Kd.C_below HCY2.out hb3); have HCD3 := aM (Kd.C_below HCD.out hb3); have HB3' := aM (HB2'.out.trans (hb3.mono HB2'.out.size)); clear hb3 hC3 hm3 hy3 HCY2 HCD)
        | (go_at_call 16; refine (turned_calls D ks ts nd HND.out Ad Ak At cd ck ct' _ HCD3.out hld HYB2.out (by omega) (Kd.C_below HCK.out HB3'.out) (Kd.C_below HCT.out HB3'.out) HYT.out).mono ?_; rintro _ w6 ⟨m6, A6, n6, c6, rfl, hm6, hy6, hn6, hc6, hC6, hb6⟩; have HC6 := aM hC6; have HM6 := aM hm6; have HY6 := aM hy6; have HW6 := aM hb6; have HB6' := aM (HB3'.out.trans (hb6.mono HB3'.out.size)); clear hb6 hC6 hm6 hy6)
        | (go_at_call 17; refine (rlay_n 3 (by decide) (by decide) A6 c6 m6 n6 HM6.out (layL 3 m6) (layL 3 m6).length rfl rfl _ HC6.out HY6.out (by omega)).mono ?_; rintro _ w7 ⟨A7, c7, rfl, -, hC7, hc7, hb7⟩; obtain ⟨z7, hz7⟩ : ∃ z7, layL 3 m6 = z7 := ⟨_, rfl⟩; obtain ⟨n7, hn7⟩ : ∃ n7, z7.length = n7 := ⟨_, rfl⟩; have hn7b : n7 ≤ 65600 := (by have h1 := (putl_three (n := m6.length) (by have := HM6.out; omega)).2; have h2 := HM6.out; rw [← hn7, ← hz7, lay_len]; omega); have hy7 : By z7 := (by rw [← hz7]; exact lay_by (by decide) HY6.out); rw [hz7, hn7] at hC7 hc7 ⊢; have HC7 := aM hC7; have HN7 := aM hn7; have HY7 := aM hy7; have HW7 := aM hb7; have HB7' := aM (HB6'.out.trans (hb7.mono HB6'.out.size)); clear hb7 hC7 hz7 hn7 hy7 HC6)
        | (go_at_call 17; refine (rlay_n 2 (by decide) (by decide) Ad cd D nd HND.out (layL 2 D) (layL 2 D).length rfl rfl _ (Kd.C_below (Kd.C_below HCD3.out HW6.out) HW7.out) HYB2.out (by omega)).mono ?_; rintro _ w8 ⟨A8, c8, rfl, -, hC8, hc8, hb8⟩; obtain ⟨z8, hz8⟩ : ∃ z8, layL 2 D = z8 := ⟨_, rfl⟩; obtain ⟨n8, hn8⟩ : ∃ n8, z8.length = n8 := ⟨_, rfl⟩; have hn8b : n8 ≤ 65600 := (by have h1 := (putl_three (n := D.length) (by have := HND.out; omega)).2; have h2 := HND.out; rw [← hn8, ← hz8, lay_len]; omega); have hy8 : By z8 := (by rw [← hz8]; exact lay_by (by decide) HYB2.out); rw [hz8, hn8] at hC8 hc8 ⊢; have HC8 := aM hC8; have HN8 := aM hn8; have HY8 := aM hy8; have HW8 := aM hb8; have HB8' := aM (HB7'.out.trans (hb8.mono HB7'.out.size)); clear hb8 hC8 hz8 hn8 hy8))
       obtain ⟨WZ, hWZ⟩ : ∃ WZ, WZ = w8.alloc (.cells #[.slice Ab b.length cb, .slice Ay ny cy, .slice A3 n3 c3, .slice A7 n7 c7, .slice A8 n8 c8] 28) := ⟨_, rfl⟩
       obtain ⟨gz, hgz⟩ : ∃ gz, w8.heap.size = gz := ⟨_, rfl⟩
       have hsz : WZ.heap.size = gz + 1 := by rw [hWZ, World.size_alloc, hgz]
       have HBW := aM (show Below w.heap.size w WZ from by rw [hWZ]; exact HB8'.out.alloc HB8'.out.size _)
       have HZT := aM (show ∀ i, i < 5 → ∀ W', Below (gz + 1) WZ W' → ZIn W' gz i from fun i hi W' h => by
        have g := (h.block gz (by omega)).trans (show WZ.heap[gz]? = some _ from by rw [hWZ, ← hgz]; exact heap_alloc_new _ _)
        have hw8 : Below w8.heap.size w8 W' := by
         refine Below.trans ?_ (h.mono (by omega))
         rw [hWZ]
         exact (Below.refl _ _).alloc (Nat.le_refl _) _
        have k7 := HW8.out.trans (hw8.mono HW8.out.size)
        have k6 := HW7.out.trans (k7.mono HW7.out.size)
        have k3 := HW6.out.trans (k6.mono HW6.out.size)
        rcases (by omega : i = 0 ∨ i = 1 ∨ i = 2 ∨ i = 3 ∨ i = 4) with rfl | rfl | rfl | rfl | rfl
        · exact ⟨Ab, b.length, cb, b, cell_at g 0 _ rfl, rfl, hcb, HYB.out, by omega, Kd.C_below HCB.out (HB8'.out.trans (hw8.mono HB8'.out.size))⟩
        · exact ⟨Ay, ny, cy, Y, cell_at g 1 _ rfl, HNY.out, hly, HYB1.out, by omega, Kd.C_below HCY3.out k3⟩
        · exact ⟨A3, n3, c3, m3, cell_at g 2 _ rfl, HM3.out, hc3, HY3.out, by omega, Kd.C_below HC3.out k3⟩
        · exact ⟨A7, n7, c7, z7, cell_at g 3 _ rfl, HN7.out, hc7, HY7.out, by omega, Kd.C_below HC7.out k7⟩
        · exact ⟨A8, n8, c8, z8, cell_at g 4 _ rfl, HN8.out, hc8, HY8.out, by omega, Kd.C_below HC8.out hw8⟩)
       rw [hgz]
       rw [← hWZ]
       have HSW := aM hsz
       clear hWZ hgz hsz HB8' HC8 HC7 HC3 HCY3 HCD3 HW6 HW7 HW8 HB3' HB6' HB7' HN8 HN7 HM3 HM6 HY3 HY6 HY7 HY8
       go_wp2_with fail
       go_loopw [138] (fun vi wr => ∃ i : Nat, i ≤ 5 ∧ vi = .int .i64 i ∧ Aside0 (Below (gz + 1) WZ wr)) (fun vi _ => 5 - (intOf vi).toNat)
       case atStart => exact ⟨0, by omega, rfl, ⟨Below.refl _ _⟩⟩
       case round =>
        obtain ⟨wq, hwq⟩ : ∃ wq, wq = wr := ⟨_, rfl⟩
        subst hwq
        obtain ⟨i, hi, rfl, HQ⟩ := hrel
        have hzq : gz + 1 ≤ wq.heap.size := by have h1 := HQ.out.size; have h2 := HSW.out; omega
        by_cases hi6 : i < 5
        · obtain ⟨A, nn, c, z, hcell, hzn, hnc, hzb, hnm, hCz⟩ := HZT.out i hi6 wq HQ.out
          obtain ⟨xa, xe, hx⟩ : ∃ xa xe, readTell z = (xa, xe) := ⟨_, _, rfl⟩
          have HX1 := aM hx
          have HZN := aM hzn
          have HZB := aM hzb
          have HCZ := aM hCz
          clear hx hzn hzb hCz
          go_wp2_with (first
           | (go_at_call 24; refine (taketell_calls A c z nn HZN.out _ HCZ.out hnc HZB.out hnm).mono ?_; rintro _ y1 ⟨hr1, hb1⟩; rw [HX1.out] at hr1; obtain ⟨a1, a2, a3, a4, a5, vb1, bs1, vc1, ct1, rfl, hR1, hT1, hx1⟩ := hr1; obtain ⟨Ar, cr, rfl, -, hCr⟩ := Kd.R_reads hR1; obtain ⟨Dr, dr, rfl, -, hDr⟩ := Kd.R_reads hT1; simp only at hx1; subst hx1; obtain ⟨nr, hnr⟩ : ∃ nr, bs1.length = nr := ⟨_, rfl⟩; obtain ⟨mr, hmr⟩ : ∃ mr, ct1.length = mr := ⟨_, rfl⟩; rw [hnr] at hCr ⊢; rw [hmr] at hDr ⊢; have HNR := aM hnr; have HMR := aM hmr; have HCR := aM hCr; have HDR := aM hDr; have HB1 := aM (HQ.out.trans (hb1.mono hzq)); have HCZ1 := aM (Kd.C_below HCZ.out hb1); clear hR1 hT1 hCr hDr hnr hmr hb1 hcell)
           | (go_at_call 25; refine (readtell_calls A c z nn HZN.out _ (Kd.C_alloc HCZ1.out _) hnc HZB.out hnm).mono ?_; rintro _ y2 ⟨hr2, hb2⟩; rw [HX1.out] at hr2; obtain ⟨d1, d2, d3, d4, d5, vb2, bs2, vc2, ct2, rfl, hR2, hT2, hx2⟩ := hr2; simp only [Prod.mk.injEq] at hx2; obtain ⟨rfl, rfl, ⟨rfl, rfl, rfl, rfl⟩, rfl⟩ := hx2; obtain ⟨As, c9, rfl, -, hCs⟩ := Kd.R_reads hR2; obtain ⟨Ds, d9, rfl, -, hDs⟩ := Kd.R_reads hT2; rw [HNR.out] at hCs ⊢; rw [HMR.out] at hDs ⊢; have HCS := aM hCs; have HDS := aM hDs; have hz1 := hb2.size; rw [World.size_alloc] at hz1; have HBB := aM (show Below (y1.heap.size + 1) (y1.alloc (.cells #[.int .i64 a1, .int .u64 a2, .int .i64 a3, .int .i64 a4, .int .i64 a5, .slice Ar nr cr, .slice Dr mr dr] 57)) (y2.alloc (.cells #[.int .i64 a1, .int .u64 a2, .int .i64 a3, .int .i64 a4, .int .i64 a5, .slice As nr c9, .slice Ds mr d9] 57)) from (hb2.mono (by rw [World.size_alloc]; exact Nat.le_refl _)).alloc hz1 _); have HCR2 := aM (Kd.C_below (Kd.C_alloc HCR.out (.cells #[.int .i64 a1, .int .u64 a2, .int .i64 a3, .int .i64 a4, .int .i64 a5, .slice Ar nr cr, .slice Dr mr dr] 57)) hb2); have HDR2 := aM (Kd.C_below (Kd.C_alloc HDR.out (.cells #[.int .i64 a1, .int .u64 a2, .int .i64 a3, .int .i64 a4, .int .i64 a5, .slice Ar nr cr, .slice Dr mr dr] 57)) hb2); have HB2 := aM ((HB1.out.alloc (by have h1 := HB1.out.size; have h2 := HSW.out; omega) (.cells #[.int .i64 a1, .int .u64 a2, .int .i64 a3, .int .i64 a4, .int .i64 a5, .slice Ar nr cr, .slice Dr mr dr] 57)).trans (hb2.mono (by rw [World.size_alloc]; have h1 := HB1.out.size; have h2 := HSW.out; omega))); obtain ⟨o0, o1, o2, o3, o4, o5, o6⟩ := tell_box HBB.out; clear hR2 hT2 hCs hDs hb2 hz1)
           | (go_at_call 26; refine (same_tells a1 a2 a3 a4 a5 bs1 nr HNR.out ct1 mr HMR.out Ar As cr c9 Dr Ds dr d9 _ (Kd.C_alloc HCR2.out _) (Kd.C_alloc HCS.out _) (Kd.C_alloc HDR2.out _) (Kd.C_alloc HDS.out _)).mono ?_; rintro _ y3 ⟨rfl, hb3⟩; have hz2 : gz + 1 ≤ y2.heap.size := (by have h1 := HB2.out.size; have h2 := HSW.out; omega); have HB3 := aM ((HB2.out.alloc hz2 (.cells #[.int .i64 a1, .int .u64 a2, .int .i64 a3, .int .i64 a4, .int .i64 a5, .slice As nr c9, .slice Ds mr d9] 57)).trans (hb3.mono (by rw [World.size_alloc]; omega))); clear hb3))
          go_roundw
          case rel => exact ⟨i + 1, by omega, by go_num, HB3⟩
          case measure => simp [intOf]; omega
        · obtain rfl : i = 5 := by omega
          go_wp2
          go_ret
          exact ⟨rfl, HBW.out.trans (HQ.out.mono (by have := HBW.out.size; have := HSW.out; omega))⟩
theorem own : ownKnob Try.prog.godebug = none := by kernel_rfl
theorem laidOut : laidOutB Try.prog = true := by kernel_rfl
def IsRow (k : IntKind) (w : World) (a : Option Addr) (len cap : Nat) (zs : List Int) : Prop :=
 (a = none ∧ len = 0 ∧ cap = 0 ∧ zs = []) ∨
 ∃ x, a = some x ∧ len ≤ cap ∧ cap ≤ maxLen ∧ zs.length = cap ∧ (∀ i, i < zs.length → w.cell? (x.add i) = some (.int k (zs.getD i 0))) ∧ ∀ n ∈ zs, (Lit.int k n).wf = true
set_option maxRecDepth 100000 in
theorem lifted (os : Os) (started : os.Started) (H : Type) (enc : TypeId × Value → H) :
 ReturnsInHanded {} Try.checked os 4 .any (Rows.workerTellsSpec.pre6 enc Try.prog Try.f4 Rows.workerTellsRow.domain false) (Rows.workerTellsSpec.post enc Try.prog Try.f4 false true false false) := by
 refine returnsInHanded_of_change_sized (C := Try.checked) own started (by kernel_rfl) Try.func4
  (ChangeSpec.witness6 (enc := enc) (C := Try.checked) false ⟨#[], #[.agg #[.int .i64 0, .int .u64 0, .int .i64 0, .int .i64 0, .int .i64 0, .slice none 0 0, .slice none 0 0], .agg #[.int .u8 0, .int .u8 0, .int .u8 0, .slice none 0 0], .slice none 0 0, .slice none 0 0, .slice none 0 0, .slice none 0 0], []⟩ 8 (by kernel_rfl) (by kernel_rfl) (by kernel_rfl) (by kernel_rfl)) ?_
 intro W base args ds gs before hval0 hW hcnd hsz0 _
 have hsz : (DataW.weightsEach Try.prog (Try.f4.params.toList ++ Rows.workerTellsSpec.plain.varTypes Try.prog) (ds ++ gs)).all (· ≤ reachBytes) = true := hsz0
 have hval : ∀ (j : Nat) t v, Try.f4.params[j]? = some t → args[j]? = some v → Value.okWide Try.prog W .any base t v := hval0
 have hW' := hW
 obtain ⟨p, q, hA0, hV, rfl, hfz, hnd⟩ := hW
 have hA : DataW.TrodAll enc Try.prog W 0 (fun _ => true) true Try.f4.params.toList args.toList ds p := hA0
 rw [Try.params4] at hA hval hsz
 obtain ⟨v0, vs0, d0, ds0, p0, q0, hargs, rfl, rfl, h0, r0⟩ := trodAll_cons hA
 obtain ⟨v1, vs1, d1, ds1, p1, q1, rfl, rfl, rfl, h1, r1⟩ := trodAll_cons r0
 obtain ⟨v2, vs2, d2, ds2, p2, q2, rfl, rfl, rfl, h2, r2⟩ := trodAll_cons r1
 obtain ⟨v3, vs3, d3, ds3, p3, q3, rfl, rfl, rfl, h3, r3⟩ := trodAll_cons r2
 obtain ⟨v4, vs4, d4, ds4, p4, q4, rfl, rfl, rfl, h4, r4⟩ := trodAll_cons r3
 obtain ⟨v5, vs5, d5, ds5, p5, q5, rfl, rfl, rfl, h5, r5⟩ := trodAll_cons r4
 obtain ⟨rfl, rfl, rfl⟩ := trodAll_nil r5
 obtain rfl : args = #[v0, v1, v2, v3, v4, v5] := by cases args; simp_all
 obtain ⟨rfl, rfl⟩ := trodVars_none hV
 obtain ⟨c0, rfl, hcs0⟩ := okWide_struct Try.underlying57 (hval 0 57 v0 rfl rfl)
 have k0 := h0
 have lt0 : ∀ x ∈ p0, x.block < W.heap.size := by obtain ⟨m, hm⟩ := k0; exact DataW.trod_lt m _ _ _ hm
 obtain ⟨fuel0, hf0⟩ := h0
 obtain ⟨x0, hK0, hok0⟩ := opens_tell _ _ _ _ _ _ _ _ _ hf0
 obtain ⟨c1, rfl, hcs1⟩ := okWide_struct Try.underlying30 (hval 1 30 v1 rfl rfl)
 have k1 := h1
 have lt1 : ∀ x ∈ p1, x.block < W.heap.size := by obtain ⟨m, hm⟩ := k1; exact DataW.trod_lt m _ _ _ hm
 obtain ⟨fuel1, hf1⟩ := h1
 obtain ⟨x1, hK1, hok1⟩ := opens_spec _ _ _ _ _ _ _ _ _ hf1
 obtain ⟨a2, len2, cap2, rfl⟩ := okWide_slice Try.underlying28 (hval 2 28 v2 rfl rfl)
 have k2 := h2
 have lt2 : ∀ x ∈ p2, x.block < W.heap.size := by obtain ⟨m, hm⟩ := k2; exact DataW.trod_lt m _ _ _ hm
 obtain ⟨z2, w2⟩ : ∃ zs, IsRow .u8 W a2 len2 cap2 zs := by
  obtain ⟨fuel, hf⟩ := h2
  rcases open_ints Try.underlying28 Try.underlying5 (by kernel_rfl) hf with ⟨hcs, _⟩ | ⟨x, l, c, zs, hcs, _, hl, hm, hz, _, hcell, hwz⟩
  · simp [Value.cells] at hcs
    obtain ⟨rfl, rfl, rfl⟩ := hcs
    exact ⟨[], .inl ⟨rfl, rfl, rfl, rfl⟩⟩
  · simp [Value.cells] at hcs
    obtain ⟨rfl, rfl, rfl⟩ := hcs
    exact ⟨zs, .inr ⟨_, rfl, hl, hm, by simpa using hz, hcell, hwz⟩⟩
 have y2 : len2 * 1 ≤ 140737488351232 := sized_ints hsz (j := 2) (t := 28) rfl rfl Try.underlying28 Try.underlying5 (by kernel_rfl) (by kernel_rfl) h2
 obtain ⟨l2, rfl, hr2, hm2, hwf2, hcap2⟩ := ReadsInt.ofRowC w2
 obtain ⟨a3, len3, cap3, rfl⟩ := okWide_slice Try.underlying28 (hval 3 28 v3 rfl rfl)
 have k3 := h3
 have lt3 : ∀ x ∈ p3, x.block < W.heap.size := by obtain ⟨m, hm⟩ := k3; exact DataW.trod_lt m _ _ _ hm
 obtain ⟨z3, w3⟩ : ∃ zs, IsRow .u8 W a3 len3 cap3 zs := by
  obtain ⟨fuel, hf⟩ := h3
  rcases open_ints Try.underlying28 Try.underlying5 (by kernel_rfl) hf with ⟨hcs, _⟩ | ⟨x, l, c, zs, hcs, _, hl, hm, hz, _, hcell, hwz⟩
  · simp [Value.cells] at hcs
    obtain ⟨rfl, rfl, rfl⟩ := hcs
    exact ⟨[], .inl ⟨rfl, rfl, rfl, rfl⟩⟩
  · simp [Value.cells] at hcs
    obtain ⟨rfl, rfl, rfl⟩ := hcs
    exact ⟨zs, .inr ⟨_, rfl, hl, hm, by simpa using hz, hcell, hwz⟩⟩
 have y3 : len3 * 1 ≤ 140737488351232 := sized_ints hsz (j := 3) (t := 28) rfl rfl Try.underlying28 Try.underlying5 (by kernel_rfl) (by kernel_rfl) h3
 obtain ⟨l3, rfl, hr3, hm3, hwf3, hcap3⟩ := ReadsInt.ofRowC w3
 obtain ⟨a4, len4, cap4, rfl⟩ := okWide_slice Try.underlying31 (hval 4 31 v4 rfl rfl)
 have k4 := h4
 have lt4 : ∀ x ∈ p4, x.block < W.heap.size := by obtain ⟨m, hm⟩ := k4; exact DataW.trod_lt m _ _ _ hm
 obtain ⟨z4, w4⟩ : ∃ zs, IsRow .i64 W a4 len4 cap4 zs := by
  obtain ⟨fuel, hf⟩ := h4
  rcases open_ints Try.underlying31 Try.underlying3 (by kernel_rfl) hf with ⟨hcs, _⟩ | ⟨x, l, c, zs, hcs, _, hl, hm, hz, _, hcell, hwz⟩
  · simp [Value.cells] at hcs
    obtain ⟨rfl, rfl, rfl⟩ := hcs
    exact ⟨[], .inl ⟨rfl, rfl, rfl, rfl⟩⟩
  · simp [Value.cells] at hcs
    obtain ⟨rfl, rfl, rfl⟩ := hcs
    exact ⟨zs, .inr ⟨_, rfl, hl, hm, by simpa using hz, hcell, hwz⟩⟩
 have y4 : len4 * 8 ≤ 140737488351232 := sized_ints hsz (j := 4) (t := 31) rfl rfl Try.underlying31 Try.underlying3 (by kernel_rfl) (by kernel_rfl) h4
 obtain ⟨l4, rfl, hr4, hm4, hwf4, hcap4⟩ := ReadsInt.ofRowC w4
 obtain ⟨a5, len5, cap5, rfl⟩ := okWide_slice Try.underlying28 (hval 5 28 v5 rfl rfl)
 have k5 := h5
 have lt5 : ∀ x ∈ p5, x.block < W.heap.size := by obtain ⟨m, hm⟩ := k5; exact DataW.trod_lt m _ _ _ hm
 obtain ⟨z5, w5⟩ : ∃ zs, IsRow .u8 W a5 len5 cap5 zs := by
  obtain ⟨fuel, hf⟩ := h5
  rcases open_ints Try.underlying28 Try.underlying5 (by kernel_rfl) hf with ⟨hcs, _⟩ | ⟨x, l, c, zs, hcs, _, hl, hm, hz, _, hcell, hwz⟩
  · simp [Value.cells] at hcs
    obtain ⟨rfl, rfl, rfl⟩ := hcs
    exact ⟨[], .inl ⟨rfl, rfl, rfl, rfl⟩⟩
  · simp [Value.cells] at hcs
    obtain ⟨rfl, rfl, rfl⟩ := hcs
    exact ⟨zs, .inr ⟨_, rfl, hl, hm, by simpa using hz, hcell, hwz⟩⟩
 have y5 : len5 * 1 ≤ 140737488351232 := sized_ints hsz (j := 5) (t := 28) rfl rfl Try.underlying28 Try.underlying5 (by kernel_rfl) (by kernel_rfl) h5
 obtain ⟨l5, rfl, hr5, hm5, hwf5, hcap5⟩ := ReadsInt.ofRowC w5
 clear hA0 hval0 hsz0 hsz
 refine (walk W c0 x0 hK0 hok0 c1 x1 hK1 hok1 _ _ l2 (Kd.C_of_reads (d := (0 : Int)) (h1 := fun _ => rfl) hr2) hcap2 y2 hwf2 _ _ l3 (Kd.C_of_reads (d := (0 : Int)) (h1 := fun _ => rfl) hr3) hcap3 y3 hwf3 _ _ l4 (Kd.C_of_reads (d := (0 : Int)) (h1 := fun _ => rfl) hr4) hcap4 y4 hwf4 _ _ l5 (Kd.C_of_reads (d := (0 : Int)) (h1 := fun _ => rfl) hr5) hcap5 y5 hwf5).mono fun e W' ⟨he, bel⟩ => ?_
 subst he
 exact ⟨_, rfl, _, _, _, [], _, [], hW', trodAll_mk1 (shut_bool Try.underlying4 _), (trodAll_cons_mk (Below.trod laidOut (by kernel_rfl) (of_decide_eq_true (by kernel_rfl)) k0 bel lt0) (trodAll_cons_mk (Below.trod laidOut (by kernel_rfl) (of_decide_eq_true (by kernel_rfl)) k1 bel lt1) (trodAll_cons_mk (Below.trod laidOut (by kernel_rfl) (of_decide_eq_true (by kernel_rfl)) k2 bel lt2) (trodAll_cons_mk (Below.trod laidOut (by kernel_rfl) (of_decide_eq_true (by kernel_rfl)) k3 bel lt3) (trodAll_cons_mk (Below.trod laidOut (by kernel_rfl) (of_decide_eq_true (by kernel_rfl)) k4 bel lt4) (trodAll_cons_mk (Below.trod laidOut (by kernel_rfl) (of_decide_eq_true (by kernel_rfl)) k5 bel lt5) trodAll_mk0)))))), rfl, bel.frame _, fun h => by cases h⟩
theorem over : Rows.workerTellsRow.holds Try.pinned (OpenSpec.ofChange Rows.workerTellsSpec) :=
 OpenClaim.holds_of_wide 4 Try.f4 rfl rfl rfl rfl rfl rfl rfl ⟨rfl, rfl, rfl, rfl, rfl⟩ rfl rfl rfl rfl rfl (by kernel_rfl) Try.func4 (by kernel_rfl)
  (of_decide_eq_true (by kernel_rfl)) (by unfold Func.isWrapper; first | (rw [if_pos (by decide +kernel)]; kernel_rfl) | (rw [if_neg (by decide +kernel)]; exact ⟨rfl, rfl⟩))
  (fun os started H enc _ => lifted os started H enc)
end Go.Proofs.Ytnckonglodmfeaa.WorkerTells
namespace Go.Proofs.Ytnckonglodmfeaa
theorem workerTells_holds : Rows.WorkerTellsSaid := WorkerTells.over
#print axioms workerTells_holds
end Go.Proofs.Ytnckonglodmfeaa
