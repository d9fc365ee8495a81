/- Contracts and plain facts that the statements' proofs use (part 11). -/
import Derived.Test.YtnckonglodmfeaaN5
import Derived.Test.YtnckonglodmfeaaN10
import Derived.Handy
set_option linter.unusedVariables false
set_option linter.unusedSimpArgs false
namespace Go.Proofs.Ytnckonglodmfeaa.Ik
open Ls Go.RowKit Go.Proofs.YtnckonglodmfeaaW.PrintWords Go.Proofs.YtnckonglodmfeaaW.PrintLast Go.Proofs.YtnckonglodmfeaaW.PrintMore B R S Is
def Ret5 (w : World) (p : Int) (R : Int) (e : Ending) (w' : World) : Prop :=
 ∃ S ad cap bs, e = .returned (.agg #[.int .i64 p, .int .i64 R, .int .i64 S, .slice (some ad) bs.length cap]) ∧ kBlk.R 84 w' w.heap.size (fun _ => True) (.slice (some ad) bs.length cap) bs ∧ codeErr (p, R, S, bs) = 0 ∧ (∀ b ∈ bs, BlkR b ∧ b.1.length ≤ 28) ∧ bs.length ≤ 7 ∧ Below w.heap.size w w'
set_option maxHeartbeats 40000000 in
set_option maxRecDepth 100000 in
theorem made5_calls (P V N G T : Int) (A : Option Addr) (c : Nat) (l : List Int) (A2 : Option Addr) (c2 : Nat) (ms : List Int) (w : World) (hP : 0 ≤ P ∧ P < 256) (hV : 0 ≤ V ∧ V < 256) (hN : 0 ≤ N ∧ N < 256) (hG : 0 ≤ G ∧ G < 256) (hT : 0 ≤ T ∧ T < 256) (hC : kU8.C w A l.length l) (hlc : l.length ≤ c) (hby : By l) (hC2 : kU8.C w A2 ms.length ms) (hby2 : By ms) :
 Calls Try.prog 21 #[.agg #[.int .u8 P, .int .u8 V, .int .u8 N, .slice A l.length c], .int .u8 G, .int .u8 T, .slice A2 ms.length c2] w (Ret5 w (P % 5) (3 + G % 6)) := by
 have mixed : Try.prog.follows .mixedOrders = true := by kernel_rfl
 have HC := aM hC
 have HY := aM hby
 have HC2 := aM hC2
 have HY2 := aM hby2
 obtain ⟨p, hp⟩ : ∃ p, P % 5 = p := ⟨_, rfl⟩
 have hp0 : 0 ≤ p ∧ p < 5 := by omega
 obtain ⟨R, hR⟩ : ∃ R, 3 + G % 6 = R := ⟨_, rfl⟩
 have hR0 : 3 ≤ R ∧ R ≤ 8 := by omega
 rw [hp, hR]
 have HP := aM hp
 have HRR := aM hR
 clear hC hby hC2 hby2 hp hR
 go_enter Try.func21, Try.ntmps21
 go_upto_region 3 with fail
 have hr := HRR.out
 rw [hr]
 clear hr
 have HB1 := aM (show Below w.heap.size w (w.alloc (.cells #[.int .u8 P, .int .u8 0, .int .u8 N, .slice A l.length c] 30)) from (Below.refl _ _).alloc (Nat.le_refl _) _)
 obtain ⟨W1, hW1⟩ : ∃ W1, W1 = w.alloc (.cells #[.int .u8 P, .int .u8 0, .int .u8 N, .slice A l.length c] 30) := ⟨_, rfl⟩
 have hs1 : W1.heap.size = w.heap.size + 1 := by rw [hW1, World.size_alloc]
 obtain ⟨W3, hW3⟩ : ∃ W3, W3 = (W1.alloc (.cells #[.int .i64 0, .int .i64 0, .int .i64 0, .slice none 0 0] 54)).alloc (.cells #[.int .i64 0, .int .i64 R, .int .i64 0, .slice none 0 0] 54) := ⟨_, rfl⟩
 have hs2 : (W1.alloc (.cells #[.int .i64 0, .int .i64 0, .int .i64 0, .slice none 0 0] 54)).heap.size = w.heap.size + 1 + 1 := by rw [World.size_alloc, hs1]
 have hs3 : W3.heap.size = w.heap.size + 1 + 1 + 1 := by rw [hW3, World.size_alloc, hs2]
 have HS3 := aM hs3
 have HSP := aM (show W3.heap[w.heap.size]? = some (.cells #[.int .u8 P, .int .u8 0, .int .u8 N, .slice A l.length c] 30 (0, 0)) from by
  rw [hW3, heap_alloc_old _ _ (by rw [hs2]; omega), heap_alloc_old _ _ (by rw [hs1]; omega), hW1, heap_alloc_new])
 have HRS := aM (show W3.heap[w.heap.size + 1]? = some (.cells #[.int .i64 0, .int .i64 0, .int .i64 0, .slice none 0 0] 54 (0, 0)) from by
  rw [hW3, heap_alloc_old _ _ (by rw [hs2]; omega), ← hs1, heap_alloc_new])
 have HBX := aM (show W3.heap[w.heap.size + 1 + 1]? = some (.cells #[.int .i64 0, .int .i64 R, .int .i64 0, .slice none 0 0] 54 (0, 0)) from by
  rw [hW3, ← hs2, heap_alloc_new])
 have HB3 := aM (show Below w.heap.size w W3 from by
  rw [hW3]
  exact ((hW1 ▸ HB1.out).alloc (by rw [hs1]; omega) _).alloc (by rw [hs2]; omega) _)
 rw [← hW1, ← hW3]
 clear hW1 hW3 hs1 hs2 hs3 HB1
 have x0 := cell_at HSP.out 0 _ rfl
 have x1 := cell_at HSP.out 1 _ rfl
 have x2 := cell_at HSP.out 2 _ rfl
 have x3 := cell_at HSP.out 3 _ rfl
 go_upto_region 4 with (go_at_call 12; refine (made_calls P 0 N A c l W3 hP (by decide) hN (Kd.C_below HC.out HB3.out) hlc HY.out).mono ?_; rintro _ w5 ⟨v, vb, bs, rfl, hRm, hGF, hv, hb⟩; rw [HP.out] at hGF ⊢; obtain ⟨Am, cm, rfl, hlm, hCm⟩ := Kd.R_reads hRm; have HRM := aM hRm; have HGF := aM hGF; have HB5 := aM hb; clear hRm hGF hb hCm hv x0 x1 x2 x3)
 obtain ⟨n, hn⟩ : ∃ n : Nat, bs.length = n := ⟨_, rfl⟩
 have hn7 : 1 ≤ n ∧ n ≤ 7 := by
  have := HGF.out.1
  omega
 obtain ⟨ad, rfl⟩ : ∃ ad, Am = some ad := by
  obtain ⟨g, hg⟩ := R_head HRM.out (by omega)
  exact ⟨_, hg⟩
 rw [hn] at hlm ⊢
 have HNB := aM hn
 have HRM := aM (show kBlk.R 84 w5 W3.heap.size (fun _ => True) (.slice (some ad) n cm) bs from hn ▸ HRM.out)
 clear hn
 clear HP HRR HC HY HSP hlc
 have HRS5 := aM ((HB5.out.block _ (by have := HS3.out; omega)).trans HRS.out)
 have HBX5 := aM ((HB5.out.block _ (by have := HS3.out; omega)).trans HBX.out)
 have HA5 := aM (HB3.out.trans (HB5.out.mono HB3.out.size))
 clear HRS HBX
 obtain ⟨W6, hW6⟩ : ∃ W6, W6 = w5.alloc (.cells #[.int .i64 p, .int .i64 v, .slice (some ad) n cm] 25) := ⟨_, rfl⟩
 have HF6 := aM (show W6.heap[w5.heap.size]? = some (.cells #[.int .i64 p, .int .i64 v, .slice (some ad) n cm] 25 (0, 0)) from by rw [hW6, heap_alloc_new])
 have HK6 := aM (show Below w5.heap.size w5 W6 from by rw [hW6]; exact (Below.refl _ _).alloc (Nat.le_refl _) _)
 have HS6 := aM (show w.heap.size + 1 + 1 + 1 ≤ w5.heap.size from by have h1 := HB5.out.size; have h2 := HS3.out; omega)
 have HBX6 := aM ((HK6.out.block _ (by have := HS6.out; omega)).trans HBX5.out)
 rw [← hW6]
 clear hW6
 have HFX := aM (show ∀ W', Keep (fun i => i = w.heap.size + 1 + 1) W6.drew W' → W'.cell? ⟨w5.heap.size, 0, none⟩ = some (.int .i64 p) ∧ W'.cell? ⟨w5.heap.size, 2, none⟩ = some (.slice (some ad) n cm) from fun W' h => by
  have g := (h.block w5.heap.size (blk_lt HF6.out) (by have := HS6.out; omega)).trans HF6.out
  exact ⟨cell_at g 0 _ rfl, cell_at g 2 _ rfl⟩)
 refine re_start [7] (fun i => i = w.heap.size + 1 + 1) (by kernel_rfl) (n := 8) (l := (bl 8 0)) (by kernel_rfl) (by kernel_rfl) ?_
 refine et 0 (bl 8 1) rfl (fun w' hR => by go_simp; first | done | with_reducible rfl) rfl ?_
 try simp only [Act.put, pB, pC, pD]
 refine et 1 (bl 8 3) rfl (fun w' hR => by have x0 := (HFX.out w' hR).1; go_simp; first | done | with_reducible rfl) rfl ?_
 try simp only [Act.put, pB, pC, pD]
 refine et 2 (bl 8 7) rfl (fun w' hR => by go_simp; first | done | with_reducible rfl) rfl ?_
 try simp only [Act.put, pB, pC, pD]
 refine et 3 (bl 8 15) rfl (fun w' hR => by have x0 := (HFX.out w' hR).2; go_simp; first | done | with_reducible rfl) rfl ?_
 try simp only [Act.put, pB, pC, pD]
 refine et 4 (bl 8 31) rfl (fun w' hR => by go_simp; first | done | with_reducible rfl) rfl ?_
 try simp only [Act.put, pB, pC, pD]
 refine re_step (fuel := 2) 5 rfl (by kernel_rfl) (listed' := (bl 8 63)) (by kernel_rfl) (by kernel_rfl) (fun K' hK => ?_)
 have r0 := cell_at (W := W6.drew) HBX6.out 0 _ rfl; have rz := blk_frozen (w := W6.drew) HBX6.out 0; go_wp2_with fail
 refine hK.out _ _ (keep_drews5 ((Keep.refl (fun i => i = w.heap.size + 1 + 1) W6).setCell ⟨w.heap.size + 1 + 1, 0, none⟩ (.int .i64 p) (fun _ => rfl))) ?_
 clear hK K'
 try simp only [Act.put, pB, pC, pD]
 refine et 6 (bl 8 127) rfl (fun w' hR => by go_simp; first | done | with_reducible rfl) rfl ?_
 try simp only [Act.put, pB, pC, pD]
 refine re_free (fuel := 0) 7 rfl (by kernel_rfl) (listed' := (bl 8 255)) (by kernel_rfl) (by kernel_rfl) (fun K' hK => ?_)
 have hq := blk_put HBX6.out 0 (.int .i64 p) (show _ = #[.int .i64 p, .int .i64 R, .int .i64 0, .slice none 0 0] from rfl); have r3 := cell_at (W := (W6.setCell ⟨w.heap.size + 1 + 1, 0, none⟩ (.int .i64 p)).drew) hq 3 _ rfl; have rz := blk_frozen (w := (W6.setCell ⟨w.heap.size + 1 + 1, 0, none⟩ (.int .i64 p)).drew) hq 3; clear hq; go_wp2_with fail
 refine hK.out _ _ trivial ?_
 clear hK K'
 try simp only [Act.put, pB, pC, pD]
 refine re_done (by kernel_rfl) ?_
 clear r0 r3 HFX
 obtain ⟨W7, hW7⟩ : ∃ W7, W7 = ((W6.setCell ⟨w.heap.size + 1 + 1, 0, none⟩ (.int .i64 p)).setCell ⟨w.heap.size + 1 + 1, 3, none⟩ (.slice (some ad) n cm)).drew := ⟨_, rfl⟩
 have hfar7 : ∀ i, i ≠ w.heap.size + 1 + 1 → W7.heap[i]? = W6.heap[i]? := fun i h1 => by
  rw [hW7]
  show ((W6.setCell ⟨w.heap.size + 1 + 1, 0, none⟩ (.int .i64 p)).setCell ⟨w.heap.size + 1 + 1, 3, none⟩ (.slice (some ad) n cm)).heap[i]? = _
  rw [Below.heap_setCell _ _ _ _ (show i ≠ w.heap.size + 1 + 1 from h1), Below.heap_setCell _ _ _ _ (show i ≠ w.heap.size + 1 + 1 from h1)]
 have HBX7 := aM (show W7.heap[w.heap.size + 1 + 1]? = some (.cells #[.int .i64 p, .int .i64 R, .int .i64 0, .slice (some ad) n cm] 54 (0, 0)) from by
  rw [hW7]
  exact blk_put (blk_put HBX6.out 0 (.int .i64 p) (show _ = #[.int .i64 p, .int .i64 R, .int .i64 0, .slice none 0 0] from rfl)) 3 (.slice (some ad) n cm) rfl)
 have HRS7 := aM ((hfar7 _ (by omega)).trans ((HK6.out.block _ (by have := HS6.out; omega)).trans HRS5.out))
 have HA7 := aM (show Below w.heap.size w W7 from by
  rw [hW7]
  have h6 := HA5.out.trans (HK6.out.mono HA5.out.size)
  exact ((h6.setCell (p := ⟨w.heap.size + 1 + 1, 0, none⟩) (by show w.heap.size ≤ w.heap.size + 1 + 1; omega) _).setCell (p := ⟨w.heap.size + 1 + 1, 3, none⟩) (by show w.heap.size ≤ w.heap.size + 1 + 1; omega) _).drew)
 have HRW7 := aM (show kBlk.R 84 W7 (w.heap.size + 3) (fun _ => True) (.slice (some ad) n cm) bs from by
  have h := Kd.R_below HRM.out HK6.out
  rw [HS3.out] at h
  exact Kd.R_mono (Kd.R_step (Kd.R_mono (Kd.R_bound h) (ok' := fun k => w.heap.size + 1 + 1 + 1 ≤ k) (fun k hk => hk.2.1)) (fun k hk hl => hfar7 k (by omega))) (fun _ _ => trivial))
 rw [← hW7]
 clear hW7 hfar7 HRM HBX6 HF6 HK6 HS6 HBX5 HRS5 HB5 HB3 HA5 HS3
 have r0 := cell_at HBX7.out 0 _ rfl
 have r1 := cell_at HBX7.out 1 _ rfl
 have r2 := cell_at HBX7.out 2 _ rfl
 have r3 := cell_at HBX7.out 3 _ rfl
 have rz := blk_frozen HBX7.out 2
 go_upto_region 7 with fail
 obtain ⟨q, hq⟩ : ∃ q, (if p < 1 then 1 else p) = q := ⟨_, rfl⟩
 have hq0 : p ≤ q ∧ 1 ≤ q ∧ q ≤ 4 := by
  by_cases h : p < 1
  · rw [if_pos h] at hq; omega
  · rw [if_neg h] at hq; omega
 rw [hq]
 clear hq r0 r1 r2 r3 rz
 obtain ⟨S, hS⟩ : ∃ S, q + T % 8 = S := ⟨_, rfl⟩
 have hS0 : p ≤ S ∧ 1 ≤ S ∧ S ≤ 12 := by omega
 rw [hS]
 clear hS hq0
 obtain ⟨W8, hW8⟩ : ∃ W8, W8 = W7.setCell ⟨w.heap.size + 1 + 1, 2, none⟩ (.int .i64 S) := ⟨_, rfl⟩
 have HE0 := aM (show E5 w W8 p R S ad cm n 0 from by
  rw [hW8]
  refine ⟨bs, ⟨(Below.heap_setCell _ _ _ _ (show w.heap.size + 1 ≠ w.heap.size + 1 + 1 by omega)).trans HRS7.out, blk_put HBX7.out 2 (.int .i64 S) rfl, Kd.R_mono (Kd.R_step (Kd.R_mono (Kd.R_bound HRW7.out) (ok' := fun k => w.heap.size + 3 ≤ k) (fun k hk => hk.2.1)) (fun k hk hl => Below.heap_setCell _ _ _ _ (show k ≠ w.heap.size + 1 + 1 by omega))) (fun _ _ => trivial), HNB.out, HA7.out.setCell (p := ⟨w.heap.size + 1 + 1, 2, none⟩) (by show w.heap.size ≤ w.heap.size + 1 + 1; omega) _⟩, fun b' k' f' x hh _ => absurd hh (by omega), fun x hx => ?_⟩
  have h := (HGF.out.2 x hx)
  have hnn : (1 + N % 7).toNat = n := by have h1 := HGF.out.1; have h2 := HNB.out; omega
  rw [hnn] at h
  exact pre_blk h)
 rw [← hW8]
 clear hW8 HBX7 HRS7 HA7 HRW7 HGF HNB
 have r3 := HE0.out.reg
 go_wp2_with fail
 clear r3
 go_loopw [47] (fun vi wr => ∃ b : Nat, b ≤ n ∧ vi = .int .i64 b ∧ Aside0 (E5 w wr p R S ad cm n b)) (fun vi _ => n - (intOf vi).toNat)
 case atStart => exact ⟨0, by omega, rfl, HE0⟩
 case round =>
  clear HE0
  obtain ⟨wo, hwo⟩ : ∃ wo, wo = wr := ⟨_, rfl⟩
  subst hwo
  obtain ⟨b, hb, rfl, HE⟩ := hrel
  by_cases hbn : b < n
  · obtain ⟨m, Ab, cb, hm8, hcb, hq5⟩ := HE.out.open hbn
    have HQ0 := aM hq5
    have r3 := HE.out.reg
    clear hq5
    go_wp2_with fail
    clear hcb r3
    go_loopw [59] (fun vi wi => ∃ k : Nat, k ≤ m ∧ vi = .int .i64 k ∧ Aside0 (Q5 w wi p R S ad cm n b k m)) (fun vi _ => m - (intOf vi).toNat)
    case atStart => exact ⟨0, by omega, rfl, HQ0⟩
    case round =>
     clear HQ0
     obtain ⟨wi, hwi⟩ : ∃ wi, wi = wr := ⟨_, rfl⟩
     subst hwi
     obtain ⟨k, hk, rfl, HQ⟩ := hrel
     by_cases hkm : k < m
     · obtain ⟨adI, cI, na, hna, hmc, hhd, hp5⟩ := HQ.out.open hkm
       have HP5 := aM hp5
       obtain ⟨d, a, bb, A6, c6, ⟨i2, i3, i4, i6⟩, hd, ha, hbb, hnc, hfz, -⟩ := hp5.open
       clear hp5 hfz i6
       go_wp2_with fail
       clear hhd
       have HRG := aM HP5.out.reg
       refine re_start [23, 26, 29] (fun _ => False) (by kernel_rfl) (n := 30) (l := (bl 30 0)) (by kernel_rfl) (by kernel_rfl) ?_
       refine et 0 (bl 30 1) rfl (fun w' hR => by go_simp; first | done | with_reducible rfl) rfl ?_
       try simp only [Act.put, pB, pC, pD]
       refine re_any (fuel := 28) 1 rfl (by kernel_rfl) (listed' := (bl 30 3)) (by kernel_rfl) (fun _ _ _ h => h) (by kernel_rfl) (fun w' => by go_simp; first | done | with_reducible rfl) rfl ?_
       try simp only [Act.put, pB, pC, pD]
       refine re_any (fuel := 27) 2 rfl (by kernel_rfl) (listed' := (bl 30 7)) (by kernel_rfl) (fun _ _ _ h => h) (by kernel_rfl) (fun w' => by go_simp; first | done | with_reducible rfl) rfl ?_
       try simp only [Act.put, pB, pC, pD]
       refine et 3 (bl 30 15) rfl (fun w' hR => by go_simp; first | done | with_reducible rfl) rfl ?_
       try simp only [Act.put, pB, pC, pD]
       refine et 4 (bl 30 31) rfl (fun w' hR => by go_simp; first | done | with_reducible rfl) rfl ?_
       try simp only [Act.put, pB, pC, pD]
       refine et 5 (bl 30 63) rfl (fun w' hR => by go_simp; first | done | with_reducible rfl) rfl ?_
       try simp only [Act.put, pB, pC, pD]
       refine et 6 (bl 30 127) rfl (fun w' hR => by go_simp; first | done | with_reducible rfl) rfl ?_
       try simp only [Act.put, pB, pC, pD]
       refine et 7 (bl 30 255) rfl (fun w' hR => by have x0 := keep_cell (W := wi.drew) hR i2; go_simp; first | done | with_reducible rfl) rfl ?_
       try simp only [Act.put, pB, pC, pD]
       refine et 9 (bl 30 767) rfl (fun w' hR => by go_simp; first | done | with_reducible rfl) rfl ?_
       try simp only [Act.put, pB, pC, pD]
       refine et 10 (bl 30 1791) rfl (fun w' hR => by go_simp; first | done | with_reducible rfl) rfl ?_
       try simp only [Act.put, pB, pC, pD]
       refine et 11 (bl 30 3839) rfl (fun w' hR => by go_simp; first | done | with_reducible rfl) rfl ?_
       try simp only [Act.put, pB, pC, pD]
       refine et 12 (bl 30 7935) rfl (fun w' hR => by go_simp; first | done | with_reducible rfl) rfl ?_
       try simp only [Act.put, pB, pC, pD]
       refine et 13 (bl 30 16127) rfl (fun w' hR => by have x0 := keep_cell (W := wi.drew) hR i3; go_simp; first | done | with_reducible rfl) rfl ?_
       try simp only [Act.put, pB, pC, pD]
       refine et 15 (bl 30 48895) rfl (fun w' hR => by go_simp; first | done | with_reducible rfl) rfl ?_
       try simp only [Act.put, pB, pC, pD]
       refine et 16 (bl 30 114431) rfl (fun w' hR => by go_simp; first | done | with_reducible rfl) rfl ?_
       try simp only [Act.put, pB, pC, pD]
       refine et 17 (bl 30 245503) rfl (fun w' hR => by go_simp; first | done | with_reducible rfl) rfl ?_
       try simp only [Act.put, pB, pC, pD]
       refine et 18 (bl 30 507647) rfl (fun w' hR => by go_simp; first | done | with_reducible rfl) rfl ?_
       try simp only [Act.put, pB, pC, pD]
       refine et 19 (bl 30 1031935) rfl (fun w' hR => by have x0 := keep_cell (W := wi.drew) hR i4; go_simp; first | done | with_reducible rfl) rfl ?_
       try simp only [Act.put, pB, pC, pD]
       refine re_step (fuel := 11) 8 rfl (by kernel_rfl) (listed' := (bl 30 1032191)) (by kernel_rfl) (by kernel_rfl) (fun K' hK => ?_)
       go_wp2_with fail; refine (at_calls d R (w.heap.size + 1 + 1) wi.drew hd.1 hd.2 hR0.1 hR0.2 HRG.out).mono ?_; rintro _ _ ⟨⟨x1, rfl, hx⟩, rfl⟩; have HX1 := aM hx; clear hx
       refine hK.out _ _ (Keep.refl _ _) ?_
       clear hK K'
       try simp only [Act.put, pB, pC, pD]
       refine re_step (fuel := 10) 14 rfl (by kernel_rfl) (listed' := (bl 30 1048575)) (by kernel_rfl) (by kernel_rfl) (fun K' hK => ?_)
       go_wp2_with fail; refine (at_calls a R (w.heap.size + 1 + 1) wi.drew ha.1 ha.2 hR0.1 hR0.2 HRG.out).mono ?_; rintro _ _ ⟨⟨x2, rfl, hx⟩, rfl⟩; have HX2 := aM hx; clear hx
       refine hK.out _ _ (Keep.refl _ _) ?_
       clear hK K'
       try simp only [Act.put, pB, pC, pD]
       refine re_step (fuel := 9) 20 rfl (by kernel_rfl) (listed' := (bl 30 2097151)) (by kernel_rfl) (by kernel_rfl) (fun K' hK => ?_)
       go_wp2_with fail; refine (at_calls bb R (w.heap.size + 1 + 1) wi.drew hbb.1 hbb.2 hR0.1 hR0.2 HRG.out).mono ?_; rintro _ _ ⟨⟨x3, rfl, hx⟩, rfl⟩; have HX3 := aM hx; clear hx
       refine hK.out _ _ (Keep.refl _ _) ?_
       clear hK K'
       try simp only [Act.put, pB, pC, pD]
       refine et 21 (bl 30 4194303) rfl (fun w' hR => by go_simp; first | done | with_reducible rfl) rfl ?_
       try simp only [Act.put, pB, pC, pD]
       refine et 22 (bl 30 8388607) rfl (fun w' hR => by go_simp; first | done | with_reducible rfl) rfl ?_
       try simp only [Act.put, pB, pC, pD]
       refine re_free (fuel := 6) 23 rfl (by kernel_rfl) (listed' := (bl 30 16777215)) (by kernel_rfl) (by kernel_rfl) (fun K' hK => ?_)
       have y2 := i2; have fz := HP5.out.frz ((adI.add (k * 7)).off + 2); go_wp2_with fail
       refine hK.out _ _ trivial ?_
       clear hK K'
       try simp only [Act.put, pB, pC, pD]
       refine re_any (fuel := 5) 24 rfl (by kernel_rfl) (listed' := (bl 30 33554431)) (by kernel_rfl) (fun _ _ _ h => h) (by kernel_rfl) (fun w' => by go_simp; first | done | with_reducible rfl) rfl ?_
       try simp only [Act.put, pB, pC, pD]
       refine re_any (fuel := 4) 25 rfl (by kernel_rfl) (listed' := (bl 30 67108863)) (by kernel_rfl) (fun _ _ _ h => h) (by kernel_rfl) (fun w' => by go_simp; first | done | with_reducible rfl) rfl ?_
       try simp only [Act.put, pB, pC, pD]
       refine re_free (fuel := 3) 26 rfl (by kernel_rfl) (listed' := (bl 30 134217727)) (by kernel_rfl) (by kernel_rfl) (fun K' hK => ?_)
       have HW1 : Aside0 (P5 w (wi.setCell ⟨(adI.add (k * 7)).block, (adI.add (k * 7)).off + 2, none⟩ (.int .i64 x1)) p R S ad cm n b k 1 adI m cI na) := ⟨HP5.out.store (f := 0) (by decide) HX1.out i2⟩; have z3 := cell_far (o := (adI.add (k * 7)).off + 2) (v := .int .i64 x1) (by omega) i3; have fz := HW1.out.frz ((adI.add (k * 7)).off + 3); go_wp2_with fail
       refine hK.out _ _ trivial ?_
       clear hK K'
       try simp only [Act.put, pB, pC, pD]
       refine re_any (fuel := 2) 27 rfl (by kernel_rfl) (listed' := (bl 30 268435455)) (by kernel_rfl) (fun _ _ _ h => h) (by kernel_rfl) (fun w' => by go_simp; first | done | with_reducible rfl) rfl ?_
       try simp only [Act.put, pB, pC, pD]
       refine re_any (fuel := 1) 28 rfl (by kernel_rfl) (listed' := (bl 30 536870911)) (by kernel_rfl) (fun _ _ _ h => h) (by kernel_rfl) (fun w' => by go_simp; first | done | with_reducible rfl) rfl ?_
       try simp only [Act.put, pB, pC, pD]
       refine re_free (fuel := 0) 29 rfl (by kernel_rfl) (listed' := (bl 30 1073741823)) (by kernel_rfl) (by kernel_rfl) (fun K' hK => ?_)
       have HW2 : Aside0 (P5 w ((wi.setCell ⟨(adI.add (k * 7)).block, (adI.add (k * 7)).off + 2, none⟩ (.int .i64 x1)).setCell ⟨(adI.add (k * 7)).block, (adI.add (k * 7)).off + 3, none⟩ (.int .i64 x2)) p R S ad cm n b k 2 adI m cI na) := ⟨HW1.out.store (f := 1) (by decide) HX2.out z3⟩; have z4 := cell_far (o := (adI.add (k * 7)).off + 3) (v := .int .i64 x2) (by omega) (cell_far (o := (adI.add (k * 7)).off + 2) (v := .int .i64 x1) (by omega) i4); have fz := HW2.out.frz ((adI.add (k * 7)).off + 4); go_wp2_with fail
       refine hK.out _ _ trivial ?_
       clear hK K'
       try simp only [Act.put, pB, pC, pD]
       refine re_done (by kernel_rfl) ?_
       have HW3 : Aside0 (P5 w (((wi.setCell ⟨(adI.add (k * 7)).block, (adI.add (k * 7)).off + 2, none⟩ (.int .i64 x1)).setCell ⟨(adI.add (k * 7)).block, (adI.add (k * 7)).off + 3, none⟩ (.int .i64 x2)).setCell ⟨(adI.add (k * 7)).block, (adI.add (k * 7)).off + 4, none⟩ (.int .i64 x3)).drew p R S ad cm n b k 3 adI m cI na) := ⟨(HW2.out.store (f := 2) (by decide) HX3.out z4).drew⟩
       generalize (((wi.setCell ⟨(adI.add (k * 7)).block, (adI.add (k * 7)).off + 2, none⟩ (.int .i64 x1)).setCell ⟨(adI.add (k * 7)).block, (adI.add (k * 7)).off + 3, none⟩ (.int .i64 x2)).setCell ⟨(adI.add (k * 7)).block, (adI.add (k * 7)).off + 4, none⟩ (.int .i64 x3)).drew = W4 at HW3 ⊢
       clear HW1 HW2 z3 z4 y2 HX1 HX2 HX3 HQ HP5 HRG i2 i3 i4 hd ha hbb hnc
       obtain ⟨_, _, _, A7, c7, ⟨-, -, -, i6⟩, -, -, -, hnc, -⟩ := HW3.out.open
       go_wp2_with fail
       clear i6
       go_loopw [100] (fun vi wi => ∃ j : Nat, j ≤ na ∧ vi = .int .i64 j ∧ Aside0 (P5 w wi p R S ad cm n b k (3 + j) adI m cI na)) (fun vi _ => na - (intOf vi).toNat)
       case atStart => exact ⟨0, by omega, rfl, HW3⟩
       case round =>
        clear HW3
        obtain ⟨wj, hwj⟩ : ∃ wj, wj = wr := ⟨_, rfl⟩
        subst hwj
        obtain ⟨j, hj, rfl, HJ⟩ := hrel
        by_cases hjn : j < na
        · obtain ⟨adA, cA, x, h6, hx, hx0, hnA, hfA, hst⟩ := HJ.out.arg hjn
          have HST := aM hst
          have HRG := aM HJ.out.reg
          clear hst
          go_wp2_with fail
          refine re_start [15] (fun _ => False) (by kernel_rfl) (n := 16) (l := (bl 16 0)) (by kernel_rfl) (by kernel_rfl) ?_
          refine et 0 (bl 16 1) rfl (fun w' hR => by go_simp; first | done | with_reducible rfl) rfl ?_
          try simp only [Act.put, pB, pC, pD]
          refine et 1 (bl 16 3) rfl (fun w' hR => by go_simp; first | done | with_reducible rfl) rfl ?_
          try simp only [Act.put, pB, pC, pD]
          refine et 2 (bl 16 7) rfl (fun w' hR => by go_simp; first | done | with_reducible rfl) rfl ?_
          try simp only [Act.put, pB, pC, pD]
          refine et 3 (bl 16 15) rfl (fun w' hR => by have x0 := keep_cell (W := wj.drew) hR h6; go_simp; first | done | with_reducible rfl) rfl ?_
          try simp only [Act.put, pB, pC, pD]
          refine et 4 (bl 16 31) rfl (fun w' hR => by go_simp; first | done | with_reducible rfl) rfl ?_
          try simp only [Act.put, pB, pC, pD]
          refine et 5 (bl 16 63) rfl (fun w' hR => by go_simp; first | done | with_reducible rfl) rfl ?_
          try simp only [Act.put, pB, pC, pD]
          refine et 6 (bl 16 127) rfl (fun w' hR => by go_simp; first | done | with_reducible rfl) rfl ?_
          try simp only [Act.put, pB, pC, pD]
          refine et 7 (bl 16 255) rfl (fun w' hR => by go_simp; first | done | with_reducible rfl) rfl ?_
          try simp only [Act.put, pB, pC, pD]
          refine et 8 (bl 16 511) rfl (fun w' hR => by go_simp; first | done | with_reducible rfl) rfl ?_
          try simp only [Act.put, pB, pC, pD]
          refine et 9 (bl 16 1023) rfl (fun w' hR => by have x0 := keep_cell (W := wj.drew) hR h6; go_simp; first | done | with_reducible rfl) rfl ?_
          try simp only [Act.put, pB, pC, pD]
          refine et 10 (bl 16 2047) rfl (fun w' hR => by go_simp; first | done | with_reducible rfl) rfl ?_
          try simp only [Act.put, pB, pC, pD]
          refine et 11 (bl 16 4095) rfl (fun w' hR => by go_simp; first | done | with_reducible rfl) rfl ?_
          try simp only [Act.put, pB, pC, pD]
          refine et 12 (bl 16 8191) rfl (fun w' hR => by have x0 := keep_cell (W := wj.drew) hR hx; go_simp; first | done | with_reducible rfl) rfl ?_
          try simp only [Act.put, pB, pC, pD]
          refine re_step (fuel := 2) 13 rfl (by kernel_rfl) (listed' := (bl 16 16383)) (by kernel_rfl) (by kernel_rfl) (fun K' hK => ?_)
          go_wp2_with fail; refine (at_calls x R (w.heap.size + 1 + 1) wj.drew hx0.1 hx0.2 hR0.1 hR0.2 HRG.out).mono ?_; rintro _ _ ⟨⟨x1, rfl, hx⟩, rfl⟩; have HX1 := aM hx; clear hx
          refine hK.out _ _ (Keep.refl _ _) ?_
          clear hK K'
          try simp only [Act.put, pB, pC, pD]
          refine et 14 (bl 16 32767) rfl (fun w' hR => by go_simp; first | done | with_reducible rfl) rfl ?_
          try simp only [Act.put, pB, pC, pD]
          refine re_free (fuel := 0) 15 rfl (by kernel_rfl) (listed' := (bl 16 65535)) (by kernel_rfl) (by kernel_rfl) (fun K' hK => ?_)
          have y2 := hx; have fz := hfA; go_wp2_with fail
          refine hK.out _ _ trivial ?_
          clear hK K'
          try simp only [Act.put, pB, pC, pD]
          refine re_done (by kernel_rfl) ?_
          have HN := aM ((HST.out _ HX1.out).drew)
          clear HST HRG HJ h6 hx hfA y2 fz HX1
          go_wp2_with fail
          go_roundw
          case rel => exact ⟨j + 1, by omega, by go_num, HN⟩
          case measure => simp [intOf]; omega
        · obtain rfl : j = na := by omega
          have HN := aM HJ.out.next
          clear HJ
          go_wp2_with fail
          go_roundw
          case rel => exact ⟨k + 1, by omega, by go_num, HN⟩
          case measure => simp [intOf]; omega
     · obtain rfl : k = m := by omega
       obtain ⟨a, y2, ha, hfz, hst⟩ := HQ.out.end_
       have HST := aM hst
       have HRG := aM HQ.out.reg
       have fz := hfz ((ad.add (b * 5)).off + 2)
       clear hst hfz
       go_wp2_with (refine (at_calls a R (w.heap.size + 1 + 1) wi ha.1 ha.2 hR0.1 hR0.2 HRG.out).mono ?_; rintro _ _ ⟨⟨x1, rfl, hx⟩, rfl⟩; have HX1 := aM hx; clear hx)
       have HN := aM (HST.out _ HX1.out)
       clear HST HRG HQ HX1 y2 fz
       go_roundw
       case rel => exact ⟨b + 1, by omega, by go_num, HN⟩
       case measure => simp [intOf]; omega
  · obtain rfl : n = b := by omega
    have HC0 := aM (HE.out.all (by omega))
    clear HE
    go_wp2_with fail
    have hmsl := HC2.out.2.1
    go_loopw [17] (fun vi wr => ∃ i j : Nat, j ≤ 20 ∧ Aside0 (i = 3 * j) ∧ vi = .int .i64 i ∧ Aside0 (C5 w wr p R S ad cm n j)) (fun vi _ => 60 - (intOf vi).toNat)
    case atStart => exact ⟨0, 0, by omega, ⟨rfl⟩, rfl, HC0⟩
    case round =>
     clear HC0
     obtain ⟨wq, hwq⟩ : ∃ wq, wq = wr := ⟨_, rfl⟩
     subst hwq
     obtain ⟨i, j, hj, HI, rfl, HC⟩ := hrel
     obtain ⟨r0, r1, r2, r3⟩ := HC.out.reg
     by_cases hgo : i + 2 < ms.length ∧ i < 60
     · obtain ⟨g1, g2⟩ := hgo
       have hj20 : j < 20 := by have := HI.out; omega
       have e1 : decide ((i : Int) + 2 < (ms.length : Int)) = true := decide_eq_true (by omega)
       have e2 : decide ((i : Int) < 60) = true := decide_eq_true (by omega)
       obtain ⟨adm, rfl⟩ := C_some HC2.out (by omega)
       obtain ⟨y0, hy0⟩ : ∃ y, ms[i]? = some y := ⟨_, List.getElem?_eq_getElem (by omega)⟩
       obtain ⟨i1, hi1⟩ : ∃ i1 : Nat, i1 = i + 1 := ⟨_, rfl⟩
       obtain ⟨i2, hi2⟩ : ∃ i2 : Nat, i2 = i + 2 := ⟨_, rfl⟩
       obtain ⟨y1, hy1⟩ : ∃ y, ms[i1]? = some y := ⟨_, List.getElem?_eq_getElem (by omega)⟩
       obtain ⟨y2, hy2⟩ : ∃ y, ms[i2]? = some y := ⟨_, List.getElem?_eq_getElem (by omega)⟩
       have n0 : i < ms.length := by omega
       have n1 : i1 < ms.length := by omega
       have n2 : i2 < ms.length := by omega
       have HI1 := aM (show IntKind.i64.wrap ((i : Int) + 1) = (i1 : Int) ∧ (i : Int) + 1 = (i1 : Int) from ⟨by rw [wrI64 _ (by omega) (by omega)]; omega, by omega⟩)
       have HI2 := aM (show IntKind.i64.wrap ((i : Int) + 2) = (i2 : Int) ∧ (i : Int) + 2 = (i2 : Int) from ⟨by rw [wrI64 _ (by omega) (by omega)]; omega, by omega⟩)
       clear hi1 hi2
       have b0 := HY2.out.at hy0
       have b1 := HY2.out.at hy1
       have b2 := HY2.out.at hy2
       have HMS := aM (show ∀ W', Keep (fun _ => False) wq W' → W'.cell? (adm.add i) = some (.int .u8 y0) ∧ W'.cell? (adm.add i1) = some (.int .u8 y1) ∧ W'.cell? (adm.add i2) = some (.int .u8 y2) from fun W' h => by
        have hC := Kd.C_below HC2.out (HC.out.below.1.trans (h.below HC.out.below.1.size (fun _ _ => id)))
        exact ⟨C_cell hC hy0, C_cell hC hy1, C_cell hC hy2⟩)
       have HRG := aM (show ∀ W', Keep (fun _ => False) wq W' → W'.cell? ⟨w.heap.size + 1 + 1, 1, none⟩ = some (.int .i64 R) ∧ W'.cell? ⟨w.heap.size + 1 + 1, 2, none⟩ = some (.int .i64 S) ∧ W'.cell? ⟨w.heap.size + 1 + 1, 3, none⟩ = some (.slice (some ad) n cm) from fun W' h => (HC.out.keep h).reg.2)
       clear hy0 hy1 hy2
       obtain ⟨idx, hidx, q1, q2, q3⟩ := rest_of b0 hn7.1
       have HQI := aM (And.intro q1 (And.intro q2 q3))
       clear q1 q2 q3
       go_upto_region 27 with fail
       clear r0 r1 r2 r3
       have HKD := aM (show ∀ W', Keep (fun _ => False) wq.drew W' → Keep (fun _ => False) wq W' from fun W' h => (Keep.refl _ wq).drew.trans h)
       have wr0 := wrI64 y0 (by omega) (by omega)
       refine rk_start (fun _ => False) (by kernel_rfl) (n := 13) (l := (bl 13 0)) (by kernel_rfl) (by kernel_rfl) ?_
       refine kt 0 (bl 13 1) rfl (fun w' hR => by go_simp; first | done | with_reducible rfl) rfl ?_
       try simp only [Act.put, pB, pC, pD]
       refine kt 1 (bl 13 3) rfl (fun w' hR => by have x0 := (HRG.out w' (HKD.out w' hR)).2.2; go_simp; first | done | with_reducible rfl) rfl ?_
       try simp only [Act.put, pB, pC, pD]
       refine kt 2 (bl 13 7) rfl (fun w' hR => by go_simp; first | done | with_reducible rfl) rfl ?_
       try simp only [Act.put, pB, pC, pD]
       refine kt 3 (bl 13 15) rfl (fun w' hR => by go_simp; first | done | with_reducible rfl) rfl ?_
       try simp only [Act.put, pB, pC, pD]
       refine kt 4 (bl 13 31) rfl (fun w' hR => by go_simp; first | done | with_reducible rfl) rfl ?_
       try simp only [Act.put, pB, pC, pD]
       refine kt 5 (bl 13 63) rfl (fun w' hR => by have x0 := (HMS.out w' (HKD.out w' hR)).1; go_simp; first | done | with_reducible rfl) rfl ?_
       try simp only [Act.put, pB, pC, pD]
       refine kt 6 (bl 13 127) rfl (fun w' hR => by go_simp; first | done | with_reducible rfl) rfl ?_
       try simp only [Act.put, pB, pC, pD]
       refine kt 7 (bl 13 255) rfl (fun w' hR => by go_simp; first | done | with_reducible rfl) rfl ?_
       try simp only [Act.put, pB, pC, pD]
       refine kt 8 (bl 13 511) rfl (fun w' hR => by have x0 := (HRG.out w' (HKD.out w' hR)).2.2; go_simp; first | done | with_reducible rfl) rfl ?_
       try simp only [Act.put, pB, pC, pD]
       refine kt 9 (bl 13 1023) rfl (fun w' hR => by go_simp; first | done | with_reducible rfl) rfl ?_
       try simp only [Act.put, pB, pC, pD]
       refine kt 10 (bl 13 2047) rfl (fun w' hR => by obtain ⟨x0, x1, x2, x3⟩ := HQI.out; go_simp; first | done | with_reducible rfl) rfl ?_
       try simp only [Act.put, pB, pC, pD]
       refine kt 11 (bl 13 4095) rfl (fun w' hR => by go_simp; first | done | with_reducible rfl) rfl ?_
       try simp only [Act.put, pB, pC, pD]
       refine kt 12 (bl 13 8191) rfl (fun w' hR => by go_simp; first | done | with_reducible rfl) rfl ?_
       try simp only [Act.put, pB, pC, pD]
       refine rk_done (by kernel_rfl) ?_
       clear wr0
       generalize wq.drew = WQ at HKD ⊢
       go_upto_region 28 with fail
       have HKE := aM (show ∀ W', Keep (fun _ => False) WQ.drew W' → Keep (fun _ => False) wq W' from fun W' h => HKD.out W' ((Keep.refl _ WQ).drew.trans h))
       obtain ⟨d1, hd1, q1⟩ := rest_ofI b1 (show 1 ≤ S by omega)
       obtain ⟨a1, ha1, q2⟩ := rest_ofI b2 (show 1 ≤ R by omega)
       obtain ⟨d2, hd2, q3⟩ := rest_ofI b1 (show 1 ≤ R by omega)
       obtain ⟨a2, ha2, q4⟩ := rest_ofI b2 (show 1 ≤ S by omega)
       have HD1 := aM q1
       have HA1 := aM q2
       have HD2 := aM q3
       have HA2 := aM q4
       clear q1 q2 q3 q4
       have HW1 := aM (wrI64 y1 (by omega) (by omega))
       have HW2 := aM (wrI64 y2 (by omega) (by omega))
       refine re_start [20] (fun _ => False) (by kernel_rfl) (n := 21) (l := (bl 21 0)) (by kernel_rfl) (by kernel_rfl) ?_
       refine et 0 (bl 21 1) rfl (fun w' hR => by go_simp; first | done | with_reducible rfl) rfl ?_
       try simp only [Act.put, pB, pC, pD]
       refine et 1 (bl 21 3) rfl (fun w' hR => by go_simp; first | done | with_reducible rfl) rfl ?_
       try simp only [Act.put, pB, pC, pD]
       refine et 2 (bl 21 7) rfl (fun w' hR => by have x0 := HI1.out.1; go_simp; first | done | with_reducible rfl) rfl ?_
       try simp only [Act.put, pB, pC, pD]
       refine et 3 (bl 21 15) rfl (fun w' hR => by go_simp; first | done | with_reducible rfl) rfl ?_
       try simp only [Act.put, pB, pC, pD]
       refine et 4 (bl 21 31) rfl (fun w' hR => by have x0 := (HMS.out w' (HKE.out w' hR)).2.1; go_simp; first | done | with_reducible rfl) rfl ?_
       try simp only [Act.put, pB, pC, pD]
       refine et 5 (bl 21 63) rfl (fun w' hR => by have x0 := HW1.out; go_simp; first | done | with_reducible rfl) rfl ?_
       try simp only [Act.put, pB, pC, pD]
       refine et 6 (bl 21 127) rfl (fun w' hR => by go_simp; first | done | with_reducible rfl) rfl ?_
       try simp only [Act.put, pB, pC, pD]
       refine et 7 (bl 21 255) rfl (fun w' hR => by have x0 := (HRG.out w' (HKE.out w' hR)).2.1; go_simp; first | done | with_reducible rfl) rfl ?_
       try simp only [Act.put, pB, pC, pD]
       refine et 8 (bl 21 511) rfl (fun w' hR => by obtain ⟨x0, x1, x2⟩ := HD1.out; go_simp; first | done | with_reducible rfl) rfl ?_
       try simp only [Act.put, pB, pC, pD]
       refine et 9 (bl 21 1023) rfl (fun w' hR => by go_simp; first | done | with_reducible rfl) rfl ?_
       try simp only [Act.put, pB, pC, pD]
       refine et 10 (bl 21 2047) rfl (fun w' hR => by go_simp; first | done | with_reducible rfl) rfl ?_
       try simp only [Act.put, pB, pC, pD]
       refine et 11 (bl 21 4095) rfl (fun w' hR => by have x0 := HI2.out.1; go_simp; first | done | with_reducible rfl) rfl ?_
       try simp only [Act.put, pB, pC, pD]
       refine et 12 (bl 21 8191) rfl (fun w' hR => by go_simp; first | done | with_reducible rfl) rfl ?_
       try simp only [Act.put, pB, pC, pD]
       refine et 13 (bl 21 16383) rfl (fun w' hR => by have x0 := (HMS.out w' (HKE.out w' hR)).2.2; go_simp; first | done | with_reducible rfl) rfl ?_
       try simp only [Act.put, pB, pC, pD]
       refine et 14 (bl 21 32767) rfl (fun w' hR => by have x0 := HW2.out; go_simp; first | done | with_reducible rfl) rfl ?_
       try simp only [Act.put, pB, pC, pD]
       refine et 15 (bl 21 65535) rfl (fun w' hR => by go_simp; first | done | with_reducible rfl) rfl ?_
       try simp only [Act.put, pB, pC, pD]
       refine et 16 (bl 21 131071) rfl (fun w' hR => by have x0 := (HRG.out w' (HKE.out w' hR)).1; go_simp; first | done | with_reducible rfl) rfl ?_
       try simp only [Act.put, pB, pC, pD]
       refine et 17 (bl 21 262143) rfl (fun w' hR => by obtain ⟨x0, x1, x2⟩ := HA1.out; go_simp; first | done | with_reducible rfl) rfl ?_
       try simp only [Act.put, pB, pC, pD]
       refine et 18 (bl 21 524287) rfl (fun w' hR => by go_simp; first | done | with_reducible rfl) rfl ?_
       try simp only [Act.put, pB, pC, pD]
       refine re_step (fuel := 1) 19 rfl (by kernel_rfl) (listed' := (bl 21 1048575)) (by kernel_rfl) (by kernel_rfl) (fun K' hK => ?_)
       (go_wp2_with fail)
       refine hK.out _ _ (keep_drews5 (Keep.of_below ((Below.refl WQ.heap.size WQ).alloc (Nat.le_refl _) (.cells #[.int .u8 0, .int .u8 0, .int .i64 0, .int .i64 0, .int .i64 0, .int .i64 0, .slice none 0 0] 92)))) ?_
       clear hK K'
       try simp only [Act.put, pB, pC, pD]
       refine re_free (fuel := 0) 20 rfl (by kernel_rfl) (listed' := (bl 21 2097151)) (by kernel_rfl) (by kernel_rfl) (fun K' hK => ?_)
       go_wp2_with fail
       refine hK.out _ _ trivial ?_
       clear hK K'
       try simp only [Act.put, pB, pC, pD]
       refine re_done (by kernel_rfl) ?_
       have HKG := aM (show Keep (fun _ => False) wq WQ from HKD.out WQ (Keep.refl _ _))
       have HKH := aM (show ∀ o W', Keep (fun _ => False) (WQ.alloc o).drew W' → Keep (fun _ => False) wq W' from fun o W' h => (HKG.out.alloc o).drew.trans h)
       have x0 := (HMS.out _ (HKH.out _ _ (Keep.refl _ (WQ.alloc (.cells #[.int .u8 7, .int .u8 0, .int .i64 d1, .int .i64 a1, .int .i64 0, .int .i64 0, .slice none 0 0] 92)).drew))).1
       have hpar : (y0 % 2 = 1 ∧ (y0 % 2 == 1) = true) ∨ (¬ y0 % 2 = 1 ∧ (y0 % 2 == 1) = false) := by
        by_cases h : y0 % 2 = 1
        · exact .inl ⟨h, by simp [h]⟩
        · exact .inr ⟨h, by simp [h]⟩
       rcases hpar with ⟨-, t1⟩ | ⟨-, t1⟩
       · go_upto_region 30 with fail
         clear x0
         have HKI := aM (show ∀ o W', Keep (fun _ => False) (WQ.alloc o).drew.drew W' → Keep (fun _ => False) wq W' from fun o W' h => (HKG.out.alloc o).drew.drew.trans h)
         refine re_start [19] (fun _ => False) (by kernel_rfl) (n := 20) (l := (bl 20 0)) (by kernel_rfl) (by kernel_rfl) ?_
         refine et 0 (bl 20 1) rfl (fun w' hR => by go_simp; first | done | with_reducible rfl) rfl ?_
         try simp only [Act.put, pB, pC, pD]
         refine et 1 (bl 20 3) rfl (fun w' hR => by go_simp; first | done | with_reducible rfl) rfl ?_
         try simp only [Act.put, pB, pC, pD]
         refine et 2 (bl 20 7) rfl (fun w' hR => by have x0 := HI1.out.1; go_simp; first | done | with_reducible rfl) rfl ?_
         try simp only [Act.put, pB, pC, pD]
         refine et 3 (bl 20 15) rfl (fun w' hR => by go_simp; first | done | with_reducible rfl) rfl ?_
         try simp only [Act.put, pB, pC, pD]
         refine et 4 (bl 20 31) rfl (fun w' hR => by have x0 := (HMS.out w' (HKI.out _ w' hR)).2.1; go_simp; first | done | with_reducible rfl) rfl ?_
         try simp only [Act.put, pB, pC, pD]
         refine et 5 (bl 20 63) rfl (fun w' hR => by have x0 := HW1.out; go_simp; first | done | with_reducible rfl) rfl ?_
         try simp only [Act.put, pB, pC, pD]
         refine et 6 (bl 20 127) rfl (fun w' hR => by go_simp; first | done | with_reducible rfl) rfl ?_
         try simp only [Act.put, pB, pC, pD]
         refine et 7 (bl 20 255) rfl (fun w' hR => by have x0 := (HRG.out w' (HKI.out _ w' hR)).1; go_simp; first | done | with_reducible rfl) rfl ?_
         try simp only [Act.put, pB, pC, pD]
         refine et 8 (bl 20 511) rfl (fun w' hR => by obtain ⟨x0, x1, x2⟩ := HD2.out; go_simp; first | done | with_reducible rfl) rfl ?_
         try simp only [Act.put, pB, pC, pD]
         refine et 9 (bl 20 1023) rfl (fun w' hR => by go_simp; first | done | with_reducible rfl) rfl ?_
         try simp only [Act.put, pB, pC, pD]
         refine et 10 (bl 20 2047) rfl (fun w' hR => by go_simp; first | done | with_reducible rfl) rfl ?_
         try simp only [Act.put, pB, pC, pD]
         refine et 11 (bl 20 4095) rfl (fun w' hR => by have x0 := HI2.out.1; go_simp; first | done | with_reducible rfl) rfl ?_
         try simp only [Act.put, pB, pC, pD]
         refine et 12 (bl 20 8191) rfl (fun w' hR => by go_simp; first | done | with_reducible rfl) rfl ?_
         try simp only [Act.put, pB, pC, pD]
         refine et 13 (bl 20 16383) rfl (fun w' hR => by have x0 := (HMS.out w' (HKI.out _ w' hR)).2.2; go_simp; first | done | with_reducible rfl) rfl ?_
         try simp only [Act.put, pB, pC, pD]
         refine et 14 (bl 20 32767) rfl (fun w' hR => by have x0 := HW2.out; go_simp; first | done | with_reducible rfl) rfl ?_
         try simp only [Act.put, pB, pC, pD]
         refine et 15 (bl 20 65535) rfl (fun w' hR => by go_simp; first | done | with_reducible rfl) rfl ?_
         try simp only [Act.put, pB, pC, pD]
         refine et 16 (bl 20 131071) rfl (fun w' hR => by have x0 := (HRG.out w' (HKI.out _ w' hR)).2.1; go_simp; first | done | with_reducible rfl) rfl ?_
         try simp only [Act.put, pB, pC, pD]
         refine et 17 (bl 20 262143) rfl (fun w' hR => by obtain ⟨x0, x1, x2⟩ := HA2.out; go_simp; first | done | with_reducible rfl) rfl ?_
         try simp only [Act.put, pB, pC, pD]
         refine et 18 (bl 20 524287) rfl (fun w' hR => by go_simp; first | done | with_reducible rfl) rfl ?_
         try simp only [Act.put, pB, pC, pD]
         refine re_free (fuel := 0) 19 rfl (by kernel_rfl) (listed' := (bl 20 1048575)) (by kernel_rfl) (by kernel_rfl) (fun K' hK => ?_)
         go_wp2_with fail
         refine hK.out _ _ trivial ?_
         clear hK K'
         try simp only [Act.put, pB, pC, pD]
         refine re_done (by kernel_rfl) ?_
         go_upto_region 31 with fail
         obtain ⟨kk, dd, aa, hkk, hdd, haa⟩ : ∃ kk dd aa : Int, kk = 8 ∧ dd = d2 ∧ aa = a2 := ⟨_, _, _, rfl, rfl, rfl⟩
         obtain ⟨WN, hWN⟩ : ∃ V, V = (WQ.alloc (.cells #[.int .u8 8, .int .u8 0, .int .i64 d2, .int .i64 a2, .int .i64 0, .int .i64 0, .slice none 0 0] 92)).drew.drew := ⟨_, rfl⟩
         have HKN := aM (show Keep (fun _ => False) wq WN by rw [hWN]; exact (HKG.out.alloc _).drew.drew)
         have HBX := aM (show WN.heap[WQ.heap.size]? = some (.cells #[.int .u8 kk, .int .u8 0, .int .i64 dd, .int .i64 aa, .int .i64 0, .int .i64 0, .slice none 0 0] 92 (0, 0)) by rw [hWN, hkk, hdd, haa]; exact heap_alloc_new WQ _)
         have HCI := aM (show CodI R S (kk, 0, dd, aa, 0, 0, []) by rw [hkk, hdd, haa]; exact cod_fill hd2 ha2 (by omega) (by omega))
         rw [← hWN]
         clear hWN hkk hdd haa
         clear HI1 HI2 HD1 HA1 HD2 HA2 HW1 HW2 HKG HKH HKD HKE HQI
         have HCN := aM (HC.out.keep HKN.out)
         obtain ⟨AI, m, cI, is, hm8, hml, hhd, hmc, -, hRI, hput⟩ := HCN.out.put hidx
         have HML := aM hml
         have HHN := aM hhd
         have HRI := aM hRI
         have HPUT := aM hput
         clear hml hhd hRI hput
         obtain ⟨e8, he8⟩ : ∃ e8, y0 / 8 = e8 := ⟨_, rfl⟩
         have be8 : 0 ≤ e8 ∧ e8 < 256 := by omega
         have HE8 := aM (show y0.tdiv 8 = e8 ∧ y0 / 8 = e8 ∧ IntKind.u8.wrap e8 = e8 from ⟨by rw [Int.tdiv_eq_ediv_of_nonneg b0.1]; exact he8, he8, by rw [IntKind.wrap_u8]; omega⟩)
         clear he8
         obtain ⟨mm, hmm⟩ : ∃ mm : Nat, mm = m + 1 := ⟨_, rfl⟩
         obtain ⟨k, hk, q⟩ := rest_of be8 (show 1 ≤ mm by omega)
         have hkm : k ≤ m := by omega
         have HQK := aM q
         have HW8 := aM (wrI64 e8 (by omega) (by omega))
         have HWM := aM (show IntKind.i64.wrap ((m : Int) + 1) = (mm : Int) ∧ (m : Int) + 1 = (mm : Int) from ⟨by rw [wrI64 _ (by omega) (by omega)]; omega, by omega⟩)
         clear hmm q hk
         have HKO := aM (show ∀ W', Keep (fun _ => False) WN.drew W' → Keep (fun _ => False) wq W' ∧ Keep (fun _ => False) WN W' from fun W' h => ⟨HKN.out.drew.trans h, (Keep.refl _ WN).drew.trans h⟩)
         refine rk_start (fun _ => False) (by kernel_rfl) (n := 14) (l := (bl 14 0)) (by kernel_rfl) (by kernel_rfl) ?_
         refine kt 0 (bl 14 1) rfl (fun w' hR => by go_simp; first | done | with_reducible rfl) rfl ?_
         try simp only [Act.put, pB, pC, pD]
         refine kt 1 (bl 14 3) rfl (fun w' hR => by go_simp; first | done | with_reducible rfl) rfl ?_
         try simp only [Act.put, pB, pC, pD]
         refine kt 2 (bl 14 7) rfl (fun w' hR => by go_simp; first | done | with_reducible rfl) rfl ?_
         try simp only [Act.put, pB, pC, pD]
         refine kt 3 (bl 14 15) rfl (fun w' hR => by have x0 := (HMS.out w' (HKO.out w' hR).1).1; go_simp; first | done | with_reducible rfl) rfl ?_
         try simp only [Act.put, pB, pC, pD]
         refine kt 4 (bl 14 31) rfl (fun w' hR => by obtain ⟨x0, x1, x2⟩ := HE8.out; go_simp; first | done | with_reducible rfl) rfl ?_
         try simp only [Act.put, pB, pC, pD]
         refine kt 5 (bl 14 63) rfl (fun w' hR => by have x0 := HW8.out; go_simp; first | done | with_reducible rfl) rfl ?_
         try simp only [Act.put, pB, pC, pD]
         refine kt 6 (bl 14 127) rfl (fun w' hR => by go_simp; first | done | with_reducible rfl) rfl ?_
         try simp only [Act.put, pB, pC, pD]
         refine kt 7 (bl 14 255) rfl (fun w' hR => by go_simp; first | done | with_reducible rfl) rfl ?_
         try simp only [Act.put, pB, pC, pD]
         refine kt 8 (bl 14 511) rfl (fun w' hR => by go_simp; first | done | with_reducible rfl) rfl ?_
         try simp only [Act.put, pB, pC, pD]
         refine kt 9 (bl 14 1023) rfl (fun w' hR => by have x0 := keep_cell (HKO.out w' hR).2 HHN.out; go_simp; first | done | with_reducible rfl) rfl ?_
         try simp only [Act.put, pB, pC, pD]
         refine kt 10 (bl 14 2047) rfl (fun w' hR => by go_simp; first | done | with_reducible rfl) rfl ?_
         try simp only [Act.put, pB, pC, pD]
         refine kt 11 (bl 14 4095) rfl (fun w' hR => by have x0 := HWM.out.1; go_simp; first | done | with_reducible rfl) rfl ?_
         try simp only [Act.put, pB, pC, pD]
         refine kt 12 (bl 14 8191) rfl (fun w' hR => by obtain ⟨x0, x1, x2, x3⟩ := HQK.out; go_simp; first | done | with_reducible rfl) rfl ?_
         try simp only [Act.put, pB, pC, pD]
         refine kt 13 (bl 14 16383) rfl (fun w' hR => by go_simp; first | done | with_reducible rfl) rfl ?_
         try simp only [Act.put, pB, pC, pD]
         refine rk_done (by kernel_rfl) ?_
         clear HE8 HQK HW8 HWM
         have HKM := aM (show Keep (fun _ => False) WN WN.drew from (Keep.refl _ WN).drew)
         generalize WN.drew = WM at HKO HKM ⊢
         go_upto_region 32 with fail
         have HHD := aM (show WM.cell? (ad.add (idx * 5)) = some (.slice AI m cI) from keep_cell HKM.out HHN.out)
         have HBX := aM (keep_heap HKM.out HBX.out)
         have HCM := aM (HCN.out.keep HKM.out)
         have HBS := aM HCM.out.below.2
         have HTL := aM (show (is.take k).length = k by rw [List.length_take, HML.out]; omega)
         have HRD := aM (show ReadsRow (kIns.M WM (w.heap.size + 3) (fun k => k < WM.heap.size)) kIns.sz WM AI m is from rows_read (Kd.R_below HRI.out (HKM.out.below (Nat.le_refl _) (fun _ _ => id))))
         have HTK := aM (show ReadsRow (kIns.M WM.drew (w.heap.size + 3) (fun k => k < WM.heap.size)) kIns.sz WM.drew AI k (is.take k) from reads_keep (reads_take HRD.out hkm) (Keep.refl _ WM).drew)
         obtain ⟨AD, hAD⟩ : ∃ q, (if cI = k then AI else AI.map (·.add (k * kIns.sz))) = q := ⟨_, rfl⟩
         have HDR := aM (show ReadsRow (kIns.M WM.drew (w.heap.size + 3) (fun k => k < WM.heap.size)) kIns.sz WM.drew AD (m - k) (is.drop k) from by rw [← hAD]; exact reads_keep (reads_drop HRD.out hkm hmc) (Keep.refl _ WM).drew)
         obtain ⟨i5, hi5, -, hi5s, -⟩ := info_ex infoIns
         have HS1 := aM (show ∀ W, (Instr.slice 79 (.slice AI m cI) none (some (.int .i64 (k : Int))) none).run Try.prog W = .ok (.slice AI k cI) W from fun W => by rw [cut_to 79 92 .i64 Try.underlying79 hi5 AI m cI (k : Int) (by omega) (by omega) hmc W]; rfl)
         have HS2 := aM (show ∀ W, (Instr.slice 79 (.slice AI m cI) (some (.int .i64 (k : Int))) none none).run Try.prog W = .ok (.slice AD (m - k) (cI - k)) W from fun W => by rw [cut_from 79 92 .i64 Try.underlying79 hi5 kIns.sz hi5s AI m cI (k : Int) (by omega) (by omega) W, ← hAD]; rfl)
         clear hAD hi5 hi5s HRD HRI HMS HRG hmc
         refine re_start [21] (fun i => WM.heap.size ≤ i) (by kernel_rfl) (n := 22) (l := (bl 22 0)) (by kernel_rfl) (by kernel_rfl) ?_
         refine et 0 (bl 22 1) rfl (fun w' hR => by go_simp; first | done | with_reducible rfl) rfl ?_
         try simp only [Act.put, pB, pC, pD]
         refine et 2 (bl 22 5) rfl (fun w' hR => by go_simp; first | done | with_reducible rfl) rfl ?_
         try simp only [Act.put, pB, pC, pD]
         refine et 3 (bl 22 13) rfl (fun w' hR => by go_simp; first | done | with_reducible rfl) rfl ?_
         try simp only [Act.put, pB, pC, pD]
         refine et 4 (bl 22 29) rfl (fun w' hR => by go_simp; first | done | with_reducible rfl) rfl ?_
         try simp only [Act.put, pB, pC, pD]
         refine et 5 (bl 22 61) rfl (fun w' hR => by have x0 := keep_cell (W := WM.drew) (keep_old hR (Nat.le_refl _)) HHD.out; go_simp; first | done | with_reducible rfl) rfl ?_
         try simp only [Act.put, pB, pC, pD]
         refine et 6 (bl 22 125) rfl (fun w' hR => by go_simp; first | done | with_reducible rfl) rfl ?_
         try simp only [Act.put, pB, pC, pD]
         refine et 7 (bl 22 253) rfl (fun w' hR => by have x0 := HS1.out w'; go_simp; first | done | with_reducible rfl) rfl ?_
         try simp only [Act.put, pB, pC, pD]
         refine et 9 (bl 22 765) rfl (fun w' hR => by obtain ⟨x0, x1, x2, x3, x4, x5, x6⟩ := ins_box (keep_heap (W := WM.drew) (keep_old hR (Nat.le_refl _)) HBX.out); go_simp; first | done | with_reducible rfl) rfl ?_
         try simp only [Act.put, pB, pC, pD]
         refine et 12 (bl 22 4861) rfl (fun w' hR => by go_simp; first | done | with_reducible rfl) rfl ?_
         try simp only [Act.put, pB, pC, pD]
         refine et 13 (bl 22 13053) rfl (fun w' hR => by go_simp; first | done | with_reducible rfl) rfl ?_
         try simp only [Act.put, pB, pC, pD]
         refine et 14 (bl 22 29437) rfl (fun w' hR => by go_simp; first | done | with_reducible rfl) rfl ?_
         try simp only [Act.put, pB, pC, pD]
         refine et 15 (bl 22 62205) rfl (fun w' hR => by have x0 := keep_cell (W := WM.drew) (keep_old hR (Nat.le_refl _)) HHD.out; go_simp; first | done | with_reducible rfl) rfl ?_
         try simp only [Act.put, pB, pC, pD]
         refine et 16 (bl 22 127741) rfl (fun w' hR => by go_simp; first | done | with_reducible rfl) rfl ?_
         try simp only [Act.put, pB, pC, pD]
         refine et 17 (bl 22 258813) rfl (fun w' hR => by have x0 := HS2.out w'; go_simp; first | done | with_reducible rfl) rfl ?_
         try simp only [Act.put, pB, pC, pD]
         refine re_fork (fuel := 7) 1 10 rfl rfl (by kernel_rfl) (by kernel_rfl) (by kernel_rfl) (listed1 := (bl 22 258815)) (listed2 := (bl 22 259837)) (by kernel_rfl) (by kernel_rfl) (fun K' hK => ?_) (fun K' hK => ?_)
         · go_wp2_with fail; obtain ⟨Wa, hWWa⟩ : ∃ V, V = (WM.alloc (.cells #[] 92)).drew := ⟨_, rfl⟩; have HZS := aM (show Wa.heap.size = WM.heap.size + 1 by rw [hWWa]; exact World.size_alloc _ _); have HKX := aM (show Keep (fun _ => False) WM.drew Wa by rw [hWWa]; exact keep_drews5 (Keep.of_below ((Below.refl WM.heap.size WM).alloc (Nat.le_refl _) _))); have HZ := aM (show kIns.R 92 Wa (w.heap.size + 3) (fun _ => True) (.slice (some ⟨WM.heap.size, 0, none⟩) 0 0) [] by rw [hWWa]; exact lit_empty WM _ (HBS.out)); have HZF := aM (show From WM.heap.size (.slice (some ⟨WM.heap.size, 0, none⟩) 0 0) from fun b hb => by have hb : some WM.heap.size = some b := hb; injection hb with hb; subst hb; exact Nat.le_refl _); rw [← hWWa]; clear hWWa
           refine hK.out _ _ (keep_new HKX.out) ?_
           clear hK K'
           try simp only [Act.put, pB, pC, pD]
           refine re_fork (fuel := 6) 8 10 rfl rfl (by kernel_rfl) (by kernel_rfl) (by kernel_rfl) (listed1 := (bl 22 259071)) (listed2 := (bl 22 259839)) (by kernel_rfl) (by kernel_rfl) (fun K' hK => ?_) (fun K' hK => ?_)
           · refine rows_append_wp kIns (W := Wa) (w.heap.size + 3) rfl (.tmp 213) (.tmp 219) 79 92 (.agg #[.int .u8 0, .int .u8 0, .int .i64 0, .int .i64 0, .int .i64 0, .int .i64 0, .slice none 0 0]) 64 rfl Try.underlying79 infoIns rfl (show 0 < 7 by decide) (by decide) (.slice (some ⟨WM.heap.size, 0, none⟩) 0 0) [] (is.take k) AI k cI (fun b => b < WM.heap.size) rfl rfl HZ.out (reads_keep HTK.out HKX.out) HZF.out.ne (Nat.le_trans HBS.out HKX.out.size) (ins_fits2 (by simp only [List.length_nil]; omega)) ?_; intro v2 Wb ho hg hat; rw [List.nil_append] at ho; obtain ⟨Av, cv, rfl, -, -⟩ := Kd.R_reads ho; rw [HTL.out] at ho hat ⊢; have HV := aM ho; have HVF := aM (HZF.out.next HKX.out.size hat); have HKS := aM (show Keep (fun i => WM.heap.size ≤ i) Wa Wb from grown_keep hg HZF.out); have HKX := aM (HZF.out.keep (w := WM.drew) rfl HKX.out hg); clear ho hg hat
             refine hK.out _ _ HKS.out ?_
             clear hK K'
             try simp only [Act.put, pB, pC, pD]
             refine re_step (fuel := 5) 10 rfl (by kernel_rfl) (listed' := (bl 22 260095)) (by kernel_rfl) (by kernel_rfl) (fun K' hK => ?_)
             go_wp2_with fail; obtain ⟨Wc, hWWc⟩ : ∃ V, V = (Wb.alloc (.cells #[.int .u8 kk, .int .u8 0, .int .i64 dd, .int .i64 aa, .int .i64 0, .int .i64 0, .slice none 0 0] 92)) := ⟨_, rfl⟩; have HKS := aM (show Keep (fun i => WM.heap.size ≤ i) Wb Wc by rw [hWWc]; exact keep_new (Keep.of_below ((Below.refl Wb.heap.size Wb).alloc (Nat.le_refl _) _))); have HBW := aM (show Below Wb.heap.size Wb Wc by rw [hWWc]; exact (Below.refl _ _).alloc (Nat.le_refl _) _); have HKX := aM (show Keep (fun _ => False) WM.drew Wc by rw [hWWc]; exact HKX.out.trans (Keep.of_below ((Below.refl Wb.heap.size Wb).alloc (Nat.le_refl _) _))); obtain ⟨adL, hadL⟩ : ∃ q : Addr, q = ⟨Wb.heap.size, 0, none⟩ := ⟨_, rfl⟩; have HAL := aM (show adL.block = Wb.heap.size by rw [hadL]); have HL := aM (show ReadsRow (kIns.M Wc (w.heap.size + 3) (fun k => k < WM.heap.size)) kIns.sz Wc (some adL) 1 [(kk, 0, dd, aa, 0, 0, [])] by rw [hadL, hWWc]; exact M_false (lit_one Wb _ kk 0 dd aa 0 0)); have HV := aM (Kd.R_below HV.out HBW.out); rw [← hadL, ← hWWc]; clear hadL hWWc
             refine hK.out _ _ HKS.out ?_
             clear hK K'
             try simp only [Act.put, pB, pC, pD]
             refine re_step (fuel := 4) 11 rfl (by kernel_rfl) (listed' := (bl 22 262143)) (by kernel_rfl) (by kernel_rfl) (fun K' hK => ?_)
             refine rows_append_wp kIns (W := Wc) (w.heap.size + 3) rfl (.tmp 220) (.tmp 222) 79 92 (.agg #[.int .u8 0, .int .u8 0, .int .i64 0, .int .i64 0, .int .i64 0, .int .i64 0, .slice none 0 0]) 64 rfl Try.underlying79 infoIns rfl (show 0 < 7 by decide) (by decide) (.slice Av k cv) (is.take k) [(kk, 0, dd, aa, 0, 0, [])] (some adL) 1 1 (fun b => b < WM.heap.size) rfl rfl HV.out HL.out HVF.out.ne (Nat.le_trans HBS.out HKX.out.size) (ins_fits2 (by rw [HTL.out]; omega)) ?_; intro v3 Wd ho hg hat; obtain ⟨Ax, cx, rfl, -, -⟩ := Kd.R_reads ho; obtain ⟨m3, hm3⟩ : ∃ q, (is.take k ++ [(kk, 0, dd, aa, 0, 0, [])]).length = q := ⟨_, rfl⟩; rw [hm3] at ho hat ⊢; have HM3 := aM hm3; have HX := aM ho; have HXF := aM (HVF.out.next HKX.out.size hat); have HKS := aM (show Keep (fun i => WM.heap.size ≤ i) Wc Wd from grown_keep hg HVF.out); have HKX := aM (HVF.out.keep (w := WM.drew) rfl HKX.out hg); clear ho hg hat hm3
             refine hK.out _ _ HKS.out ?_
             clear hK K'
             try simp only [Act.put, pB, pC, pD]
             refine re_step (fuel := 3) 18 rfl (by kernel_rfl) (listed' := (bl 22 524287)) (by kernel_rfl) (by kernel_rfl) (fun K' hK => ?_)
             refine rows_append_wp kIns (W := Wd) (w.heap.size + 3) rfl (.tmp 223) (.tmp 229) 79 92 (.agg #[.int .u8 0, .int .u8 0, .int .i64 0, .int .i64 0, .int .i64 0, .int .i64 0, .slice none 0 0]) 64 rfl Try.underlying79 infoIns rfl (show 0 < 7 by decide) (by decide) (.slice Ax m3 cx) (is.take k ++ [(kk, 0, dd, aa, 0, 0, [])]) (is.drop k) AD (m - k) (cI - k) (fun b => b < WM.heap.size) rfl rfl HX.out (reads_keep HDR.out HKX.out) HXF.out.ne (Nat.le_trans HBS.out HKX.out.size) (ins_fits2 (by have h1 := HTL.out; have h2 := HM3.out; rw [List.length_append, h1] at h2; simp only [List.length_cons, List.length_nil] at h2; rw [List.length_append, h1]; simp only [List.length_cons, List.length_nil]; omega)) ?_; intro v5 We ho hg hat; obtain ⟨A5, c5, rfl, -, -⟩ := Kd.R_reads ho; obtain ⟨m5, hm5⟩ : ∃ q, (is.take k ++ [(kk, 0, dd, aa, 0, 0, [])] ++ is.drop k).length = q := ⟨_, rfl⟩; rw [hm5] at ho hat ⊢; have H5 := aM ho; have HKS := aM (show Keep (fun i => WM.heap.size ≤ i) Wd We from grown_keep hg HXF.out); have HKX := aM (HXF.out.keep (w := WM.drew) rfl HKX.out hg); clear ho hg hat hm5
             refine hK.out _ _ HKS.out ?_
             clear hK K'
             try simp only [Act.put, pB, pC, pD]
             refine et 19 (bl 22 1048575) rfl (fun w' hR => by go_simp; first | done | with_reducible rfl) rfl ?_
             try simp only [Act.put, pB, pC, pD]
             refine et 20 (bl 22 2097151) rfl (fun w' hR => by go_simp; first | done | with_reducible rfl) rfl ?_
             try simp only [Act.put, pB, pC, pD]
             refine re_free (fuel := 0) 21 rfl (by kernel_rfl) (listed' := (bl 22 4194303)) (by kernel_rfl) (by kernel_rfl) (fun K' hK => ?_)
             have y0 := keep_cell (W := WM.drew) HKX.out HHD.out; have fz := (HCM.out.keep ((Keep.refl _ WM).drew.trans HKX.out)).frz hidx; go_wp2_with fail
             refine hK.out _ _ trivial ?_
             clear hK K'
             try simp only [Act.put, pB, pC, pD]
             refine re_done (by kernel_rfl) ?_
             have HF := aM (HPUT.out We k (kk, 0, dd, aa, 0, 0, []) (.slice A5 m5 c5) (HKM.out.trans ((Keep.refl _ WM).drew.trans HKX.out)) HCI.out H5.out)
             have HFD := aM (HF.out.keep (Keep.refl _ _).drew)
             clear HPUT HKM HKO HKN HKS H5 HX HV HL HZ y0 fz HHN HHD HBX HCM HCN HC
             go_wp2_with fail
             go_roundw
             case rel => exact ⟨i + 3, j + 1, by omega, ⟨by have := HI.out; omega⟩, by go_num, by first | exact HF | exact HFD⟩
             case measure => simp [intOf]; omega
           · go_wp2_with fail; obtain ⟨Wb, hWWb⟩ : ∃ V, V = (Wa.alloc (.cells #[.int .u8 kk, .int .u8 0, .int .i64 dd, .int .i64 aa, .int .i64 0, .int .i64 0, .slice none 0 0] 92)) := ⟨_, rfl⟩; have HKS := aM (show Keep (fun i => WM.heap.size ≤ i) Wa Wb by rw [hWWb]; exact keep_new (Keep.of_below ((Below.refl Wa.heap.size Wa).alloc (Nat.le_refl _) _))); have HBW := aM (show Below Wa.heap.size Wa Wb by rw [hWWb]; exact (Below.refl _ _).alloc (Nat.le_refl _) _); have HKX := aM (show Keep (fun _ => False) WM.drew Wb by rw [hWWb]; exact HKX.out.trans (Keep.of_below ((Below.refl Wa.heap.size Wa).alloc (Nat.le_refl _) _))); obtain ⟨adL, hadL⟩ : ∃ q : Addr, q = ⟨Wa.heap.size, 0, none⟩ := ⟨_, rfl⟩; have HAL := aM (show adL.block = Wa.heap.size by rw [hadL]); have HL := aM (show ReadsRow (kIns.M Wb (w.heap.size + 3) (fun k => k < WM.heap.size)) kIns.sz Wb (some adL) 1 [(kk, 0, dd, aa, 0, 0, [])] by rw [hadL, hWWb]; exact M_false (lit_one Wa _ kk 0 dd aa 0 0)); have HZ := aM (Kd.R_below HZ.out HBW.out); rw [← hadL, ← hWWb]; clear hadL hWWb
             refine hK.out _ _ HKS.out ?_
             clear hK K'
             try simp only [Act.put, pB, pC, pD]
             refine re_step (fuel := 5) 8 rfl (by kernel_rfl) (listed' := (bl 22 260095)) (by kernel_rfl) (by kernel_rfl) (fun K' hK => ?_)
             refine rows_append_wp kIns (W := Wb) (w.heap.size + 3) rfl (.tmp 213) (.tmp 219) 79 92 (.agg #[.int .u8 0, .int .u8 0, .int .i64 0, .int .i64 0, .int .i64 0, .int .i64 0, .slice none 0 0]) 64 rfl Try.underlying79 infoIns rfl (show 0 < 7 by decide) (by decide) (.slice (some ⟨WM.heap.size, 0, none⟩) 0 0) [] (is.take k) AI k cI (fun b => b < WM.heap.size) rfl rfl HZ.out (reads_keep HTK.out HKX.out) HZF.out.ne (Nat.le_trans HBS.out HKX.out.size) (ins_fits2 (by simp only [List.length_nil]; omega)) ?_; intro v2 Wc ho hg hat; rw [List.nil_append] at ho; obtain ⟨Av, cv, rfl, -, -⟩ := Kd.R_reads ho; rw [HTL.out] at ho hat ⊢; have HV := aM ho; have HVF := aM (HZF.out.next HKX.out.size hat); have HKS := aM (show Keep (fun i => WM.heap.size ≤ i) Wb Wc from grown_keep hg HZF.out); have HL := aM (reads_grown HL.out HZF.out (fun a e he => by injection e with e; subst e; have he : some adL.block = some WM.heap.size := he; injection he with he; rw [HAL.out] at he; have := HZS.out; omega) hg); have HKX := aM (HZF.out.keep (w := WM.drew) rfl HKX.out hg); clear ho hg hat
             refine hK.out _ _ HKS.out ?_
             clear hK K'
             try simp only [Act.put, pB, pC, pD]
             refine re_step (fuel := 4) 11 rfl (by kernel_rfl) (listed' := (bl 22 262143)) (by kernel_rfl) (by kernel_rfl) (fun K' hK => ?_)
             refine rows_append_wp kIns (W := Wc) (w.heap.size + 3) rfl (.tmp 220) (.tmp 222) 79 92 (.agg #[.int .u8 0, .int .u8 0, .int .i64 0, .int .i64 0, .int .i64 0, .int .i64 0, .slice none 0 0]) 64 rfl Try.underlying79 infoIns rfl (show 0 < 7 by decide) (by decide) (.slice Av k cv) (is.take k) [(kk, 0, dd, aa, 0, 0, [])] (some adL) 1 1 (fun b => b < WM.heap.size) rfl rfl HV.out HL.out HVF.out.ne (Nat.le_trans HBS.out HKX.out.size) (ins_fits2 (by rw [HTL.out]; omega)) ?_; intro v3 Wd ho hg hat; obtain ⟨Ax, cx, rfl, -, -⟩ := Kd.R_reads ho; obtain ⟨m3, hm3⟩ : ∃ q, (is.take k ++ [(kk, 0, dd, aa, 0, 0, [])]).length = q := ⟨_, rfl⟩; rw [hm3] at ho hat ⊢; have HM3 := aM hm3; have HX := aM ho; have HXF := aM (HVF.out.next HKX.out.size hat); have HKS := aM (show Keep (fun i => WM.heap.size ≤ i) Wc Wd from grown_keep hg HVF.out); have HKX := aM (HVF.out.keep (w := WM.drew) rfl HKX.out hg); clear ho hg hat hm3
             refine hK.out _ _ HKS.out ?_
             clear hK K'
             try simp only [Act.put, pB, pC, pD]
             refine re_step (fuel := 3) 18 rfl (by kernel_rfl) (listed' := (bl 22 524287)) (by kernel_rfl) (by kernel_rfl) (fun K' hK => ?_)
             refine rows_append_wp kIns (W := Wd) (w.heap.size + 3) rfl (.tmp 223) (.tmp 229) 79 92 (.agg #[.int .u8 0, .int .u8 0, .int .i64 0, .int .i64 0, .int .i64 0, .int .i64 0, .slice none 0 0]) 64 rfl Try.underlying79 infoIns rfl (show 0 < 7 by decide) (by decide) (.slice Ax m3 cx) (is.take k ++ [(kk, 0, dd, aa, 0, 0, [])]) (is.drop k) AD (m - k) (cI - k) (fun b => b < WM.heap.size) rfl rfl HX.out (reads_keep HDR.out HKX.out) HXF.out.ne (Nat.le_trans HBS.out HKX.out.size) (ins_fits2 (by have h1 := HTL.out; have h2 := HM3.out; rw [List.length_append, h1] at h2; simp only [List.length_cons, List.length_nil] at h2; rw [List.length_append, h1]; simp only [List.length_cons, List.length_nil]; omega)) ?_; intro v5 We ho hg hat; obtain ⟨A5, c5, rfl, -, -⟩ := Kd.R_reads ho; obtain ⟨m5, hm5⟩ : ∃ q, (is.take k ++ [(kk, 0, dd, aa, 0, 0, [])] ++ is.drop k).length = q := ⟨_, rfl⟩; rw [hm5] at ho hat ⊢; have H5 := aM ho; have HKS := aM (show Keep (fun i => WM.heap.size ≤ i) Wd We from grown_keep hg HXF.out); have HKX := aM (HXF.out.keep (w := WM.drew) rfl HKX.out hg); clear ho hg hat hm5
             refine hK.out _ _ HKS.out ?_
             clear hK K'
             try simp only [Act.put, pB, pC, pD]
             refine et 19 (bl 22 1048575) rfl (fun w' hR => by go_simp; first | done | with_reducible rfl) rfl ?_
             try simp only [Act.put, pB, pC, pD]
             refine et 20 (bl 22 2097151) rfl (fun w' hR => by go_simp; first | done | with_reducible rfl) rfl ?_
             try simp only [Act.put, pB, pC, pD]
             refine re_free (fuel := 0) 21 rfl (by kernel_rfl) (listed' := (bl 22 4194303)) (by kernel_rfl) (by kernel_rfl) (fun K' hK => ?_)
             have y0 := keep_cell (W := WM.drew) HKX.out HHD.out; have fz := (HCM.out.keep ((Keep.refl _ WM).drew.trans HKX.out)).frz hidx; go_wp2_with fail
             refine hK.out _ _ trivial ?_
             clear hK K'
             try simp only [Act.put, pB, pC, pD]
             refine re_done (by kernel_rfl) ?_
             have HF := aM (HPUT.out We k (kk, 0, dd, aa, 0, 0, []) (.slice A5 m5 c5) (HKM.out.trans ((Keep.refl _ WM).drew.trans HKX.out)) HCI.out H5.out)
             have HFD := aM (HF.out.keep (Keep.refl _ _).drew)
             clear HPUT HKM HKO HKN HKS H5 HX HV HL HZ y0 fz HHN HHD HBX HCM HCN HC
             go_wp2_with fail
             go_roundw
             case rel => exact ⟨i + 3, j + 1, by omega, ⟨by have := HI.out; omega⟩, by go_num, by first | exact HF | exact HFD⟩
             case measure => simp [intOf]; omega
         · go_wp2_with fail; obtain ⟨Wa, hWWa⟩ : ∃ V, V = (WM.alloc (.cells #[.int .u8 kk, .int .u8 0, .int .i64 dd, .int .i64 aa, .int .i64 0, .int .i64 0, .slice none 0 0] 92)).drew := ⟨_, rfl⟩; have HKX := aM (show Keep (fun _ => False) WM.drew Wa by rw [hWWa]; exact keep_drews5 (Keep.of_below ((Below.refl WM.heap.size WM).alloc (Nat.le_refl _) _))); obtain ⟨adL, hadL⟩ : ∃ q : Addr, q = ⟨WM.heap.size, 0, none⟩ := ⟨_, rfl⟩; have HAL := aM (show adL.block = WM.heap.size by rw [hadL]); have HZS := aM (show Wa.heap.size = WM.heap.size + 1 by rw [hWWa]; exact World.size_alloc _ _); have HL := aM (show ReadsRow (kIns.M Wa (w.heap.size + 3) (fun k => k < WM.heap.size)) kIns.sz Wa (some adL) 1 [(kk, 0, dd, aa, 0, 0, [])] by rw [hadL, hWWa]; exact M_false (lit_one WM _ kk 0 dd aa 0 0)); have HKXa := HKX; rw [← hadL, ← hWWa]; clear hadL hWWa
           refine hK.out _ _ (keep_new HKX.out) ?_
           clear hK K'
           try simp only [Act.put, pB, pC, pD]
           refine re_step (fuel := 6) 1 rfl (by kernel_rfl) (listed' := (bl 22 259839)) (by kernel_rfl) (by kernel_rfl) (fun K' hK => ?_)
           go_wp2_with fail; obtain ⟨Wb, hWWb⟩ : ∃ V, V = (Wa.alloc (.cells #[] 92)) := ⟨_, rfl⟩; have HKS := aM (show Keep (fun i => WM.heap.size ≤ i) Wa Wb by rw [hWWb]; exact keep_new (Keep.of_below ((Below.refl Wa.heap.size Wa).alloc (Nat.le_refl _) _))); have HKX := aM (show Keep (fun _ => False) WM.drew Wb by rw [hWWb]; exact HKX.out.trans (Keep.of_below ((Below.refl Wa.heap.size Wa).alloc (Nat.le_refl _) _))); have HZ := aM (show kIns.R 92 Wb (w.heap.size + 3) (fun _ => True) (.slice (some ⟨Wa.heap.size, 0, none⟩) 0 0) [] by rw [hWWb]; exact lit_empty Wa _ (Nat.le_trans HBS.out HKXa.out.size)); have HZF := aM (show From WM.heap.size (.slice (some ⟨Wa.heap.size, 0, none⟩) 0 0) from fun b hb => by have hb : some Wa.heap.size = some b := hb; injection hb with hb; subst hb; exact HKXa.out.size); have HL := aM (reads_keep HL.out (Keep.of_below (show Below Wa.heap.size Wa Wb by rw [hWWb]; exact (Below.refl _ _).alloc (Nat.le_refl _) _))); rw [← hWWb]; clear hWWb
           refine hK.out _ _ HKS.out ?_
           clear hK K'
           try simp only [Act.put, pB, pC, pD]
           refine re_step (fuel := 5) 8 rfl (by kernel_rfl) (listed' := (bl 22 260095)) (by kernel_rfl) (by kernel_rfl) (fun K' hK => ?_)
           refine rows_append_wp kIns (W := Wb) (w.heap.size + 3) rfl (.tmp 213) (.tmp 219) 79 92 (.agg #[.int .u8 0, .int .u8 0, .int .i64 0, .int .i64 0, .int .i64 0, .int .i64 0, .slice none 0 0]) 64 rfl Try.underlying79 infoIns rfl (show 0 < 7 by decide) (by decide) (.slice (some ⟨Wa.heap.size, 0, none⟩) 0 0) [] (is.take k) AI k cI (fun b => b < WM.heap.size) rfl rfl HZ.out (reads_keep HTK.out HKX.out) HZF.out.ne (Nat.le_trans HBS.out HKX.out.size) (ins_fits2 (by simp only [List.length_nil]; omega)) ?_; intro v2 Wc ho hg hat; rw [List.nil_append] at ho; obtain ⟨Av, cv, rfl, -, -⟩ := Kd.R_reads ho; rw [HTL.out] at ho hat ⊢; have HV := aM ho; have HVF := aM (HZF.out.next HKX.out.size hat); have HKS := aM (show Keep (fun i => WM.heap.size ≤ i) Wb Wc from grown_keep hg HZF.out); have HL := aM (reads_grown HL.out HZF.out (fun a e he => by injection e with e; subst e; have he : some adL.block = some Wa.heap.size := he; injection he with he; rw [HAL.out] at he; have := HZS.out; omega) hg); have HKX := aM (HZF.out.keep (w := WM.drew) rfl HKX.out hg); clear ho hg hat
           refine hK.out _ _ HKS.out ?_
           clear hK K'
           try simp only [Act.put, pB, pC, pD]
           refine re_step (fuel := 4) 11 rfl (by kernel_rfl) (listed' := (bl 22 262143)) (by kernel_rfl) (by kernel_rfl) (fun K' hK => ?_)
           refine rows_append_wp kIns (W := Wc) (w.heap.size + 3) rfl (.tmp 220) (.tmp 222) 79 92 (.agg #[.int .u8 0, .int .u8 0, .int .i64 0, .int .i64 0, .int .i64 0, .int .i64 0, .slice none 0 0]) 64 rfl Try.underlying79 infoIns rfl (show 0 < 7 by decide) (by decide) (.slice Av k cv) (is.take k) [(kk, 0, dd, aa, 0, 0, [])] (some adL) 1 1 (fun b => b < WM.heap.size) rfl rfl HV.out HL.out HVF.out.ne (Nat.le_trans HBS.out HKX.out.size) (ins_fits2 (by rw [HTL.out]; omega)) ?_; intro v3 Wd ho hg hat; obtain ⟨Ax, cx, rfl, -, -⟩ := Kd.R_reads ho; obtain ⟨m3, hm3⟩ : ∃ q, (is.take k ++ [(kk, 0, dd, aa, 0, 0, [])]).length = q := ⟨_, rfl⟩; rw [hm3] at ho hat ⊢; have HM3 := aM hm3; have HX := aM ho; have HXF := aM (HVF.out.next HKX.out.size hat); have HKS := aM (show Keep (fun i => WM.heap.size ≤ i) Wc Wd from grown_keep hg HVF.out); have HKX := aM (HVF.out.keep (w := WM.drew) rfl HKX.out hg); clear ho hg hat hm3
           refine hK.out _ _ HKS.out ?_
           clear hK K'
           try simp only [Act.put, pB, pC, pD]
           refine re_step (fuel := 3) 18 rfl (by kernel_rfl) (listed' := (bl 22 524287)) (by kernel_rfl) (by kernel_rfl) (fun K' hK => ?_)
           refine rows_append_wp kIns (W := Wd) (w.heap.size + 3) rfl (.tmp 223) (.tmp 229) 79 92 (.agg #[.int .u8 0, .int .u8 0, .int .i64 0, .int .i64 0, .int .i64 0, .int .i64 0, .slice none 0 0]) 64 rfl Try.underlying79 infoIns rfl (show 0 < 7 by decide) (by decide) (.slice Ax m3 cx) (is.take k ++ [(kk, 0, dd, aa, 0, 0, [])]) (is.drop k) AD (m - k) (cI - k) (fun b => b < WM.heap.size) rfl rfl HX.out (reads_keep HDR.out HKX.out) HXF.out.ne (Nat.le_trans HBS.out HKX.out.size) (ins_fits2 (by have h1 := HTL.out; have h2 := HM3.out; rw [List.length_append, h1] at h2; simp only [List.length_cons, List.length_nil] at h2; rw [List.length_append, h1]; simp only [List.length_cons, List.length_nil]; omega)) ?_; intro v5 We ho hg hat; obtain ⟨A5, c5, rfl, -, -⟩ := Kd.R_reads ho; obtain ⟨m5, hm5⟩ : ∃ q, (is.take k ++ [(kk, 0, dd, aa, 0, 0, [])] ++ is.drop k).length = q := ⟨_, rfl⟩; rw [hm5] at ho hat ⊢; have H5 := aM ho; have HKS := aM (show Keep (fun i => WM.heap.size ≤ i) Wd We from grown_keep hg HXF.out); have HKX := aM (HXF.out.keep (w := WM.drew) rfl HKX.out hg); clear ho hg hat hm5
           refine hK.out _ _ HKS.out ?_
           clear hK K'
           try simp only [Act.put, pB, pC, pD]
           refine et 19 (bl 22 1048575) rfl (fun w' hR => by go_simp; first | done | with_reducible rfl) rfl ?_
           try simp only [Act.put, pB, pC, pD]
           refine et 20 (bl 22 2097151) rfl (fun w' hR => by go_simp; first | done | with_reducible rfl) rfl ?_
           try simp only [Act.put, pB, pC, pD]
           refine re_free (fuel := 0) 21 rfl (by kernel_rfl) (listed' := (bl 22 4194303)) (by kernel_rfl) (by kernel_rfl) (fun K' hK => ?_)
           have y0 := keep_cell (W := WM.drew) HKX.out HHD.out; have fz := (HCM.out.keep ((Keep.refl _ WM).drew.trans HKX.out)).frz hidx; go_wp2_with fail
           refine hK.out _ _ trivial ?_
           clear hK K'
           try simp only [Act.put, pB, pC, pD]
           refine re_done (by kernel_rfl) ?_
           have HF := aM (HPUT.out We k (kk, 0, dd, aa, 0, 0, []) (.slice A5 m5 c5) (HKM.out.trans ((Keep.refl _ WM).drew.trans HKX.out)) HCI.out H5.out)
           have HFD := aM (HF.out.keep (Keep.refl _ _).drew)
           clear HPUT HKM HKO HKN HKS H5 HX HV HL HZ y0 fz HHN HHD HBX HCM HCN HC
           go_wp2_with fail
           go_roundw
           case rel => exact ⟨i + 3, j + 1, by omega, ⟨by have := HI.out; omega⟩, by go_num, by first | exact HF | exact HFD⟩
           case measure => simp [intOf]; omega
       · go_upto_region 31 with fail
         clear x0
         obtain ⟨kk, dd, aa, hkk, hdd, haa⟩ : ∃ kk dd aa : Int, kk = 7 ∧ dd = d1 ∧ aa = a1 := ⟨_, _, _, rfl, rfl, rfl⟩
         obtain ⟨WN, hWN⟩ : ∃ V, V = (WQ.alloc (.cells #[.int .u8 7, .int .u8 0, .int .i64 d1, .int .i64 a1, .int .i64 0, .int .i64 0, .slice none 0 0] 92)).drew := ⟨_, rfl⟩
         have HKN := aM (show Keep (fun _ => False) wq WN by rw [hWN]; exact (HKG.out.alloc _).drew)
         have HBX := aM (show WN.heap[WQ.heap.size]? = some (.cells #[.int .u8 kk, .int .u8 0, .int .i64 dd, .int .i64 aa, .int .i64 0, .int .i64 0, .slice none 0 0] 92 (0, 0)) by rw [hWN, hkk, hdd, haa]; exact heap_alloc_new WQ _)
         have HCI := aM (show CodI R S (kk, 0, dd, aa, 0, 0, []) by rw [hkk, hdd, haa]; exact cod_spill hd1 ha1 (by omega) (by omega))
         rw [← hWN]
         clear hWN hkk hdd haa
         clear HI1 HI2 HD1 HA1 HD2 HA2 HW1 HW2 HKG HKH HKD HKE HQI
         have HCN := aM (HC.out.keep HKN.out)
         obtain ⟨AI, m, cI, is, hm8, hml, hhd, hmc, -, hRI, hput⟩ := HCN.out.put hidx
         have HML := aM hml
         have HHN := aM hhd
         have HRI := aM hRI
         have HPUT := aM hput
         clear hml hhd hRI hput
         obtain ⟨e8, he8⟩ : ∃ e8, y0 / 8 = e8 := ⟨_, rfl⟩
         have be8 : 0 ≤ e8 ∧ e8 < 256 := by omega
         have HE8 := aM (show y0.tdiv 8 = e8 ∧ y0 / 8 = e8 ∧ IntKind.u8.wrap e8 = e8 from ⟨by rw [Int.tdiv_eq_ediv_of_nonneg b0.1]; exact he8, he8, by rw [IntKind.wrap_u8]; omega⟩)
         clear he8
         obtain ⟨mm, hmm⟩ : ∃ mm : Nat, mm = m + 1 := ⟨_, rfl⟩
         obtain ⟨k, hk, q⟩ := rest_of be8 (show 1 ≤ mm by omega)
         have hkm : k ≤ m := by omega
         have HQK := aM q
         have HW8 := aM (wrI64 e8 (by omega) (by omega))
         have HWM := aM (show IntKind.i64.wrap ((m : Int) + 1) = (mm : Int) ∧ (m : Int) + 1 = (mm : Int) from ⟨by rw [wrI64 _ (by omega) (by omega)]; omega, by omega⟩)
         clear hmm q hk
         have HKO := aM (show ∀ W', Keep (fun _ => False) WN.drew W' → Keep (fun _ => False) wq W' ∧ Keep (fun _ => False) WN W' from fun W' h => ⟨HKN.out.drew.trans h, (Keep.refl _ WN).drew.trans h⟩)
         refine rk_start (fun _ => False) (by kernel_rfl) (n := 14) (l := (bl 14 0)) (by kernel_rfl) (by kernel_rfl) ?_
         refine kt 0 (bl 14 1) rfl (fun w' hR => by go_simp; first | done | with_reducible rfl) rfl ?_
         try simp only [Act.put, pB, pC, pD]
         refine kt 1 (bl 14 3) rfl (fun w' hR => by go_simp; first | done | with_reducible rfl) rfl ?_
         try simp only [Act.put, pB, pC, pD]
         refine kt 2 (bl 14 7) rfl (fun w' hR => by go_simp; first | done | with_reducible rfl) rfl ?_
         try simp only [Act.put, pB, pC, pD]
         refine kt 3 (bl 14 15) rfl (fun w' hR => by have x0 := (HMS.out w' (HKO.out w' hR).1).1; go_simp; first | done | with_reducible rfl) rfl ?_
         try simp only [Act.put, pB, pC, pD]
         refine kt 4 (bl 14 31) rfl (fun w' hR => by obtain ⟨x0, x1, x2⟩ := HE8.out; go_simp; first | done | with_reducible rfl) rfl ?_
         try simp only [Act.put, pB, pC, pD]
         refine kt 5 (bl 14 63) rfl (fun w' hR => by have x0 := HW8.out; go_simp; first | done | with_reducible rfl) rfl ?_
         try simp only [Act.put, pB, pC, pD]
         refine kt 6 (bl 14 127) rfl (fun w' hR => by go_simp; first | done | with_reducible rfl) rfl ?_
         try simp only [Act.put, pB, pC, pD]
         refine kt 7 (bl 14 255) rfl (fun w' hR => by go_simp; first | done | with_reducible rfl) rfl ?_
         try simp only [Act.put, pB, pC, pD]
         refine kt 8 (bl 14 511) rfl (fun w' hR => by go_simp; first | done | with_reducible rfl) rfl ?_
         try simp only [Act.put, pB, pC, pD]
         refine kt 9 (bl 14 1023) rfl (fun w' hR => by have x0 := keep_cell (HKO.out w' hR).2 HHN.out; go_simp; first | done | with_reducible rfl) rfl ?_
         try simp only [Act.put, pB, pC, pD]
         refine kt 10 (bl 14 2047) rfl (fun w' hR => by go_simp; first | done | with_reducible rfl) rfl ?_
         try simp only [Act.put, pB, pC, pD]
         refine kt 11 (bl 14 4095) rfl (fun w' hR => by have x0 := HWM.out.1; go_simp; first | done | with_reducible rfl) rfl ?_
         try simp only [Act.put, pB, pC, pD]
         refine kt 12 (bl 14 8191) rfl (fun w' hR => by obtain ⟨x0, x1, x2, x3⟩ := HQK.out; go_simp; first | done | with_reducible rfl) rfl ?_
         try simp only [Act.put, pB, pC, pD]
         refine kt 13 (bl 14 16383) rfl (fun w' hR => by go_simp; first | done | with_reducible rfl) rfl ?_
         try simp only [Act.put, pB, pC, pD]
         refine rk_done (by kernel_rfl) ?_
         clear HE8 HQK HW8 HWM
         have HKM := aM (show Keep (fun _ => False) WN WN.drew from (Keep.refl _ WN).drew)
         generalize WN.drew = WM at HKO HKM ⊢
         go_upto_region 32 with fail
         have HHD := aM (show WM.cell? (ad.add (idx * 5)) = some (.slice AI m cI) from keep_cell HKM.out HHN.out)
         have HBX := aM (keep_heap HKM.out HBX.out)
         have HCM := aM (HCN.out.keep HKM.out)
         have HBS := aM HCM.out.below.2
         have HTL := aM (show (is.take k).length = k by rw [List.length_take, HML.out]; omega)
         have HRD := aM (show ReadsRow (kIns.M WM (w.heap.size + 3) (fun k => k < WM.heap.size)) kIns.sz WM AI m is from rows_read (Kd.R_below HRI.out (HKM.out.below (Nat.le_refl _) (fun _ _ => id))))
         have HTK := aM (show ReadsRow (kIns.M WM.drew (w.heap.size + 3) (fun k => k < WM.heap.size)) kIns.sz WM.drew AI k (is.take k) from reads_keep (reads_take HRD.out hkm) (Keep.refl _ WM).drew)
         obtain ⟨AD, hAD⟩ : ∃ q, (if cI = k then AI else AI.map (·.add (k * kIns.sz))) = q := ⟨_, rfl⟩
         have HDR := aM (show ReadsRow (kIns.M WM.drew (w.heap.size + 3) (fun k => k < WM.heap.size)) kIns.sz WM.drew AD (m - k) (is.drop k) from by rw [← hAD]; exact reads_keep (reads_drop HRD.out hkm hmc) (Keep.refl _ WM).drew)
         obtain ⟨i5, hi5, -, hi5s, -⟩ := info_ex infoIns
         have HS1 := aM (show ∀ W, (Instr.slice 79 (.slice AI m cI) none (some (.int .i64 (k : Int))) none).run Try.prog W = .ok (.slice AI k cI) W from fun W => by rw [cut_to 79 92 .i64 Try.underlying79 hi5 AI m cI (k : Int) (by omega) (by omega) hmc W]; rfl)
         have HS2 := aM (show ∀ W, (Instr.slice 79 (.slice AI m cI) (some (.int .i64 (k : Int))) none none).run Try.prog W = .ok (.slice AD (m - k) (cI - k)) W from fun W => by rw [cut_from 79 92 .i64 Try.underlying79 hi5 kIns.sz hi5s AI m cI (k : Int) (by omega) (by omega) W, ← hAD]; rfl)
         clear hAD hi5 hi5s HRD HRI HMS HRG hmc
         refine re_start [21] (fun i => WM.heap.size ≤ i) (by kernel_rfl) (n := 22) (l := (bl 22 0)) (by kernel_rfl) (by kernel_rfl) ?_
         refine et 0 (bl 22 1) rfl (fun w' hR => by go_simp; first | done | with_reducible rfl) rfl ?_
         try simp only [Act.put, pB, pC, pD]
         refine et 2 (bl 22 5) rfl (fun w' hR => by go_simp; first | done | with_reducible rfl) rfl ?_
         try simp only [Act.put, pB, pC, pD]
         refine et 3 (bl 22 13) rfl (fun w' hR => by go_simp; first | done | with_reducible rfl) rfl ?_
         try simp only [Act.put, pB, pC, pD]
         refine et 4 (bl 22 29) rfl (fun w' hR => by go_simp; first | done | with_reducible rfl) rfl ?_
         try simp only [Act.put, pB, pC, pD]
         refine et 5 (bl 22 61) rfl (fun w' hR => by have x0 := keep_cell (W := WM.drew) (keep_old hR (Nat.le_refl _)) HHD.out; go_simp; first | done | with_reducible rfl) rfl ?_
         try simp only [Act.put, pB, pC, pD]
         refine et 6 (bl 22 125) rfl (fun w' hR => by go_simp; first | done | with_reducible rfl) rfl ?_
         try simp only [Act.put, pB, pC, pD]
         refine et 7 (bl 22 253) rfl (fun w' hR => by have x0 := HS1.out w'; go_simp; first | done | with_reducible rfl) rfl ?_
         try simp only [Act.put, pB, pC, pD]
         refine et 9 (bl 22 765) rfl (fun w' hR => by obtain ⟨x0, x1, x2, x3, x4, x5, x6⟩ := ins_box (keep_heap (W := WM.drew) (keep_old hR (Nat.le_refl _)) HBX.out); go_simp; first | done | with_reducible rfl) rfl ?_
         try simp only [Act.put, pB, pC, pD]
         refine et 12 (bl 22 4861) rfl (fun w' hR => by go_simp; first | done | with_reducible rfl) rfl ?_
         try simp only [Act.put, pB, pC, pD]
         refine et 13 (bl 22 13053) rfl (fun w' hR => by go_simp; first | done | with_reducible rfl) rfl ?_
         try simp only [Act.put, pB, pC, pD]
         refine et 14 (bl 22 29437) rfl (fun w' hR => by go_simp; first | done | with_reducible rfl) rfl ?_
         try simp only [Act.put, pB, pC, pD]
         refine et 15 (bl 22 62205) rfl (fun w' hR => by have x0 := keep_cell (W := WM.drew) (keep_old hR (Nat.le_refl _)) HHD.out; go_simp; first | done | with_reducible rfl) rfl ?_
         try simp only [Act.put, pB, pC, pD]
         refine et 16 (bl 22 127741) rfl (fun w' hR => by go_simp; first | done | with_reducible rfl) rfl ?_
         try simp only [Act.put, pB, pC, pD]
         refine et 17 (bl 22 258813) rfl (fun w' hR => by have x0 := HS2.out w'; go_simp; first | done | with_reducible rfl) rfl ?_
         try simp only [Act.put, pB, pC, pD]
         refine re_fork (fuel := 7) 1 10 rfl rfl (by kernel_rfl) (by kernel_rfl) (by kernel_rfl) (listed1 := (bl 22 258815)) (listed2 := (bl 22 259837)) (by kernel_rfl) (by kernel_rfl) (fun K' hK => ?_) (fun K' hK => ?_)
         · go_wp2_with fail; obtain ⟨Wa, hWWa⟩ : ∃ V, V = (WM.alloc (.cells #[] 92)).drew := ⟨_, rfl⟩; have HZS := aM (show Wa.heap.size = WM.heap.size + 1 by rw [hWWa]; exact World.size_alloc _ _); have HKX := aM (show Keep (fun _ => False) WM.drew Wa by rw [hWWa]; exact keep_drews5 (Keep.of_below ((Below.refl WM.heap.size WM).alloc (Nat.le_refl _) _))); have HZ := aM (show kIns.R 92 Wa (w.heap.size + 3) (fun _ => True) (.slice (some ⟨WM.heap.size, 0, none⟩) 0 0) [] by rw [hWWa]; exact lit_empty WM _ (HBS.out)); have HZF := aM (show From WM.heap.size (.slice (some ⟨WM.heap.size, 0, none⟩) 0 0) from fun b hb => by have hb : some WM.heap.size = some b := hb; injection hb with hb; subst hb; exact Nat.le_refl _); rw [← hWWa]; clear hWWa
           refine hK.out _ _ (keep_new HKX.out) ?_
           clear hK K'
           try simp only [Act.put, pB, pC, pD]
           refine re_fork (fuel := 6) 8 10 rfl rfl (by kernel_rfl) (by kernel_rfl) (by kernel_rfl) (listed1 := (bl 22 259071)) (listed2 := (bl 22 259839)) (by kernel_rfl) (by kernel_rfl) (fun K' hK => ?_) (fun K' hK => ?_)
           · refine rows_append_wp kIns (W := Wa) (w.heap.size + 3) rfl (.tmp 213) (.tmp 219) 79 92 (.agg #[.int .u8 0, .int .u8 0, .int .i64 0, .int .i64 0, .int .i64 0, .int .i64 0, .slice none 0 0]) 64 rfl Try.underlying79 infoIns rfl (show 0 < 7 by decide) (by decide) (.slice (some ⟨WM.heap.size, 0, none⟩) 0 0) [] (is.take k) AI k cI (fun b => b < WM.heap.size) rfl rfl HZ.out (reads_keep HTK.out HKX.out) HZF.out.ne (Nat.le_trans HBS.out HKX.out.size) (ins_fits2 (by simp only [List.length_nil]; omega)) ?_; intro v2 Wb ho hg hat; rw [List.nil_append] at ho; obtain ⟨Av, cv, rfl, -, -⟩ := Kd.R_reads ho; rw [HTL.out] at ho hat ⊢; have HV := aM ho; have HVF := aM (HZF.out.next HKX.out.size hat); have HKS := aM (show Keep (fun i => WM.heap.size ≤ i) Wa Wb from grown_keep hg HZF.out); have HKX := aM (HZF.out.keep (w := WM.drew) rfl HKX.out hg); clear ho hg hat
             refine hK.out _ _ HKS.out ?_
             clear hK K'
             try simp only [Act.put, pB, pC, pD]
             refine re_step (fuel := 5) 10 rfl (by kernel_rfl) (listed' := (bl 22 260095)) (by kernel_rfl) (by kernel_rfl) (fun K' hK => ?_)
             go_wp2_with fail; obtain ⟨Wc, hWWc⟩ : ∃ V, V = (Wb.alloc (.cells #[.int .u8 kk, .int .u8 0, .int .i64 dd, .int .i64 aa, .int .i64 0, .int .i64 0, .slice none 0 0] 92)) := ⟨_, rfl⟩; have HKS := aM (show Keep (fun i => WM.heap.size ≤ i) Wb Wc by rw [hWWc]; exact keep_new (Keep.of_below ((Below.refl Wb.heap.size Wb).alloc (Nat.le_refl _) _))); have HBW := aM (show Below Wb.heap.size Wb Wc by rw [hWWc]; exact (Below.refl _ _).alloc (Nat.le_refl _) _); have HKX := aM (show Keep (fun _ => False) WM.drew Wc by rw [hWWc]; exact HKX.out.trans (Keep.of_below ((Below.refl Wb.heap.size Wb).alloc (Nat.le_refl _) _))); obtain ⟨adL, hadL⟩ : ∃ q : Addr, q = ⟨Wb.heap.size, 0, none⟩ := ⟨_, rfl⟩; have HAL := aM (show adL.block = Wb.heap.size by rw [hadL]); have HL := aM (show ReadsRow (kIns.M Wc (w.heap.size + 3) (fun k => k < WM.heap.size)) kIns.sz Wc (some adL) 1 [(kk, 0, dd, aa, 0, 0, [])] by rw [hadL, hWWc]; exact M_false (lit_one Wb _ kk 0 dd aa 0 0)); have HV := aM (Kd.R_below HV.out HBW.out); rw [← hadL, ← hWWc]; clear hadL hWWc
             refine hK.out _ _ HKS.out ?_
             clear hK K'
             try simp only [Act.put, pB, pC, pD]
             refine re_step (fuel := 4) 11 rfl (by kernel_rfl) (listed' := (bl 22 262143)) (by kernel_rfl) (by kernel_rfl) (fun K' hK => ?_)
             refine rows_append_wp kIns (W := Wc) (w.heap.size + 3) rfl (.tmp 220) (.tmp 222) 79 92 (.agg #[.int .u8 0, .int .u8 0, .int .i64 0, .int .i64 0, .int .i64 0, .int .i64 0, .slice none 0 0]) 64 rfl Try.underlying79 infoIns rfl (show 0 < 7 by decide) (by decide) (.slice Av k cv) (is.take k) [(kk, 0, dd, aa, 0, 0, [])] (some adL) 1 1 (fun b => b < WM.heap.size) rfl rfl HV.out HL.out HVF.out.ne (Nat.le_trans HBS.out HKX.out.size) (ins_fits2 (by rw [HTL.out]; omega)) ?_; intro v3 Wd ho hg hat; obtain ⟨Ax, cx, rfl, -, -⟩ := Kd.R_reads ho; obtain ⟨m3, hm3⟩ : ∃ q, (is.take k ++ [(kk, 0, dd, aa, 0, 0, [])]).length = q := ⟨_, rfl⟩; rw [hm3] at ho hat ⊢; have HM3 := aM hm3; have HX := aM ho; have HXF := aM (HVF.out.next HKX.out.size hat); have HKS := aM (show Keep (fun i => WM.heap.size ≤ i) Wc Wd from grown_keep hg HVF.out); have HKX := aM (HVF.out.keep (w := WM.drew) rfl HKX.out hg); clear ho hg hat hm3
             refine hK.out _ _ HKS.out ?_
             clear hK K'
             try simp only [Act.put, pB, pC, pD]
             refine re_step (fuel := 3) 18 rfl (by kernel_rfl) (listed' := (bl 22 524287)) (by kernel_rfl) (by kernel_rfl) (fun K' hK => ?_)
             refine rows_append_wp kIns (W := Wd) (w.heap.size + 3) rfl (.tmp 223) (.tmp 229) 79 92 (.agg #[.int .u8 0, .int .u8 0, .int .i64 0, .int .i64 0, .int .i64 0, .int .i64 0, .slice none 0 0]) 64 rfl Try.underlying79 infoIns rfl (show 0 < 7 by decide) (by decide) (.slice Ax m3 cx) (is.take k ++ [(kk, 0, dd, aa, 0, 0, [])]) (is.drop k) AD (m - k) (cI - k) (fun b => b < WM.heap.size) rfl rfl HX.out (reads_keep HDR.out HKX.out) HXF.out.ne (Nat.le_trans HBS.out HKX.out.size) (ins_fits2 (by have h1 := HTL.out; have h2 := HM3.out; rw [List.length_append, h1] at h2; simp only [List.length_cons, List.length_nil] at h2; rw [List.length_append, h1]; simp only [List.length_cons, List.length_nil]; omega)) ?_; intro v5 We ho hg hat; obtain ⟨A5, c5, rfl, -, -⟩ := Kd.R_reads ho; obtain ⟨m5, hm5⟩ : ∃ q, (is.take k ++ [(kk, 0, dd, aa, 0, 0, [])] ++ is.drop k).length = q := ⟨_, rfl⟩; rw [hm5] at ho hat ⊢; have H5 := aM ho; have HKS := aM (show Keep (fun i => WM.heap.size ≤ i) Wd We from grown_keep hg HXF.out); have HKX := aM (HXF.out.keep (w := WM.drew) rfl HKX.out hg); clear ho hg hat hm5
             refine hK.out _ _ HKS.out ?_
             clear hK K'
             try simp only [Act.put, pB, pC, pD]
             refine et 19 (bl 22 1048575) rfl (fun w' hR => by go_simp; first | done | with_reducible rfl) rfl ?_
             try simp only [Act.put, pB, pC, pD]
             refine et 20 (bl 22 2097151) rfl (fun w' hR => by go_simp; first | done | with_reducible rfl) rfl ?_
             try simp only [Act.put, pB, pC, pD]
             refine re_free (fuel := 0) 21 rfl (by kernel_rfl) (listed' := (bl 22 4194303)) (by kernel_rfl) (by kernel_rfl) (fun K' hK => ?_)
             have y0 := keep_cell (W := WM.drew) HKX.out HHD.out; have fz := (HCM.out.keep ((Keep.refl _ WM).drew.trans HKX.out)).frz hidx; go_wp2_with fail
             refine hK.out _ _ trivial ?_
             clear hK K'
             try simp only [Act.put, pB, pC, pD]
             refine re_done (by kernel_rfl) ?_
             have HF := aM (HPUT.out We k (kk, 0, dd, aa, 0, 0, []) (.slice A5 m5 c5) (HKM.out.trans ((Keep.refl _ WM).drew.trans HKX.out)) HCI.out H5.out)
             have HFD := aM (HF.out.keep (Keep.refl _ _).drew)
             clear HPUT HKM HKO HKN HKS H5 HX HV HL HZ y0 fz HHN HHD HBX HCM HCN HC
             go_wp2_with fail
             go_roundw
             case rel => exact ⟨i + 3, j + 1, by omega, ⟨by have := HI.out; omega⟩, by go_num, by first | exact HF | exact HFD⟩
             case measure => simp [intOf]; omega
           · go_wp2_with fail; obtain ⟨Wb, hWWb⟩ : ∃ V, V = (Wa.alloc (.cells #[.int .u8 kk, .int .u8 0, .int .i64 dd, .int .i64 aa, .int .i64 0, .int .i64 0, .slice none 0 0] 92)) := ⟨_, rfl⟩; have HKS := aM (show Keep (fun i => WM.heap.size ≤ i) Wa Wb by rw [hWWb]; exact keep_new (Keep.of_below ((Below.refl Wa.heap.size Wa).alloc (Nat.le_refl _) _))); have HBW := aM (show Below Wa.heap.size Wa Wb by rw [hWWb]; exact (Below.refl _ _).alloc (Nat.le_refl _) _); have HKX := aM (show Keep (fun _ => False) WM.drew Wb by rw [hWWb]; exact HKX.out.trans (Keep.of_below ((Below.refl Wa.heap.size Wa).alloc (Nat.le_refl _) _))); obtain ⟨adL, hadL⟩ : ∃ q : Addr, q = ⟨Wa.heap.size, 0, none⟩ := ⟨_, rfl⟩; have HAL := aM (show adL.block = Wa.heap.size by rw [hadL]); have HL := aM (show ReadsRow (kIns.M Wb (w.heap.size + 3) (fun k => k < WM.heap.size)) kIns.sz Wb (some adL) 1 [(kk, 0, dd, aa, 0, 0, [])] by rw [hadL, hWWb]; exact M_false (lit_one Wa _ kk 0 dd aa 0 0)); have HZ := aM (Kd.R_below HZ.out HBW.out); rw [← hadL, ← hWWb]; clear hadL hWWb
             refine hK.out _ _ HKS.out ?_
             clear hK K'
             try simp only [Act.put, pB, pC, pD]
             refine re_step (fuel := 5) 8 rfl (by kernel_rfl) (listed' := (bl 22 260095)) (by kernel_rfl) (by kernel_rfl) (fun K' hK => ?_)
             refine rows_append_wp kIns (W := Wb) (w.heap.size + 3) rfl (.tmp 213) (.tmp 219) 79 92 (.agg #[.int .u8 0, .int .u8 0, .int .i64 0, .int .i64 0, .int .i64 0, .int .i64 0, .slice none 0 0]) 64 rfl Try.underlying79 infoIns rfl (show 0 < 7 by decide) (by decide) (.slice (some ⟨WM.heap.size, 0, none⟩) 0 0) [] (is.take k) AI k cI (fun b => b < WM.heap.size) rfl rfl HZ.out (reads_keep HTK.out HKX.out) HZF.out.ne (Nat.le_trans HBS.out HKX.out.size) (ins_fits2 (by simp only [List.length_nil]; omega)) ?_; intro v2 Wc ho hg hat; rw [List.nil_append] at ho; obtain ⟨Av, cv, rfl, -, -⟩ := Kd.R_reads ho; rw [HTL.out] at ho hat ⊢; have HV := aM ho; have HVF := aM (HZF.out.next HKX.out.size hat); have HKS := aM (show Keep (fun i => WM.heap.size ≤ i) Wb Wc from grown_keep hg HZF.out); have HL := aM (reads_grown HL.out HZF.out (fun a e he => by injection e with e; subst e; have he : some adL.block = some WM.heap.size := he; injection he with he; rw [HAL.out] at he; have := HZS.out; omega) hg); have HKX := aM (HZF.out.keep (w := WM.drew) rfl HKX.out hg); clear ho hg hat
             refine hK.out _ _ HKS.out ?_
             clear hK K'
             try simp only [Act.put, pB, pC, pD]
             refine re_step (fuel := 4) 11 rfl (by kernel_rfl) (listed' := (bl 22 262143)) (by kernel_rfl) (by kernel_rfl) (fun K' hK => ?_)
             refine rows_append_wp kIns (W := Wc) (w.heap.size + 3) rfl (.tmp 220) (.tmp 222) 79 92 (.agg #[.int .u8 0, .int .u8 0, .int .i64 0, .int .i64 0, .int .i64 0, .int .i64 0, .slice none 0 0]) 64 rfl Try.underlying79 infoIns rfl (show 0 < 7 by decide) (by decide) (.slice Av k cv) (is.take k) [(kk, 0, dd, aa, 0, 0, [])] (some adL) 1 1 (fun b => b < WM.heap.size) rfl rfl HV.out HL.out HVF.out.ne (Nat.le_trans HBS.out HKX.out.size) (ins_fits2 (by rw [HTL.out]; omega)) ?_; intro v3 Wd ho hg hat; obtain ⟨Ax, cx, rfl, -, -⟩ := Kd.R_reads ho; obtain ⟨m3, hm3⟩ : ∃ q, (is.take k ++ [(kk, 0, dd, aa, 0, 0, [])]).length = q := ⟨_, rfl⟩; rw [hm3] at ho hat ⊢; have HM3 := aM hm3; have HX := aM ho; have HXF := aM (HVF.out.next HKX.out.size hat); have HKS := aM (show Keep (fun i => WM.heap.size ≤ i) Wc Wd from grown_keep hg HVF.out); have HKX := aM (HVF.out.keep (w := WM.drew) rfl HKX.out hg); clear ho hg hat hm3
             refine hK.out _ _ HKS.out ?_
             clear hK K'
             try simp only [Act.put, pB, pC, pD]
             refine re_step (fuel := 3) 18 rfl (by kernel_rfl) (listed' := (bl 22 524287)) (by kernel_rfl) (by kernel_rfl) (fun K' hK => ?_)
             refine rows_append_wp kIns (W := Wd) (w.heap.size + 3) rfl (.tmp 223) (.tmp 229) 79 92 (.agg #[.int .u8 0, .int .u8 0, .int .i64 0, .int .i64 0, .int .i64 0, .int .i64 0, .slice none 0 0]) 64 rfl Try.underlying79 infoIns rfl (show 0 < 7 by decide) (by decide) (.slice Ax m3 cx) (is.take k ++ [(kk, 0, dd, aa, 0, 0, [])]) (is.drop k) AD (m - k) (cI - k) (fun b => b < WM.heap.size) rfl rfl HX.out (reads_keep HDR.out HKX.out) HXF.out.ne (Nat.le_trans HBS.out HKX.out.size) (ins_fits2 (by have h1 := HTL.out; have h2 := HM3.out; rw [List.length_append, h1] at h2; simp only [List.length_cons, List.length_nil] at h2; rw [List.length_append, h1]; simp only [List.length_cons, List.length_nil]; omega)) ?_; intro v5 We ho hg hat; obtain ⟨A5, c5, rfl, -, -⟩ := Kd.R_reads ho; obtain ⟨m5, hm5⟩ : ∃ q, (is.take k ++ [(kk, 0, dd, aa, 0, 0, [])] ++ is.drop k).length = q := ⟨_, rfl⟩; rw [hm5] at ho hat ⊢; have H5 := aM ho; have HKS := aM (show Keep (fun i => WM.heap.size ≤ i) Wd We from grown_keep hg HXF.out); have HKX := aM (HXF.out.keep (w := WM.drew) rfl HKX.out hg); clear ho hg hat hm5
             refine hK.out _ _ HKS.out ?_
             clear hK K'
             try simp only [Act.put, pB, pC, pD]
             refine et 19 (bl 22 1048575) rfl (fun w' hR => by go_simp; first | done | with_reducible rfl) rfl ?_
             try simp only [Act.put, pB, pC, pD]
             refine et 20 (bl 22 2097151) rfl (fun w' hR => by go_simp; first | done | with_reducible rfl) rfl ?_
             try simp only [Act.put, pB, pC, pD]
             refine re_free (fuel := 0) 21 rfl (by kernel_rfl) (listed' := (bl 22 4194303)) (by kernel_rfl) (by kernel_rfl) (fun K' hK => ?_)
             have y0 := keep_cell (W := WM.drew) HKX.out HHD.out; have fz := (HCM.out.keep ((Keep.refl _ WM).drew.trans HKX.out)).frz hidx; go_wp2_with fail
             refine hK.out _ _ trivial ?_
             clear hK K'
             try simp only [Act.put, pB, pC, pD]
             refine re_done (by kernel_rfl) ?_
             have HF := aM (HPUT.out We k (kk, 0, dd, aa, 0, 0, []) (.slice A5 m5 c5) (HKM.out.trans ((Keep.refl _ WM).drew.trans HKX.out)) HCI.out H5.out)
             have HFD := aM (HF.out.keep (Keep.refl _ _).drew)
             clear HPUT HKM HKO HKN HKS H5 HX HV HL HZ y0 fz HHN HHD HBX HCM HCN HC
             go_wp2_with fail
             go_roundw
             case rel => exact ⟨i + 3, j + 1, by omega, ⟨by have := HI.out; omega⟩, by go_num, by first | exact HF | exact HFD⟩
             case measure => simp [intOf]; omega
         · go_wp2_with fail; obtain ⟨Wa, hWWa⟩ : ∃ V, V = (WM.alloc (.cells #[.int .u8 kk, .int .u8 0, .int .i64 dd, .int .i64 aa, .int .i64 0, .int .i64 0, .slice none 0 0] 92)).drew := ⟨_, rfl⟩; have HKX := aM (show Keep (fun _ => False) WM.drew Wa by rw [hWWa]; exact keep_drews5 (Keep.of_below ((Below.refl WM.heap.size WM).alloc (Nat.le_refl _) _))); obtain ⟨adL, hadL⟩ : ∃ q : Addr, q = ⟨WM.heap.size, 0, none⟩ := ⟨_, rfl⟩; have HAL := aM (show adL.block = WM.heap.size by rw [hadL]); have HZS := aM (show Wa.heap.size = WM.heap.size + 1 by rw [hWWa]; exact World.size_alloc _ _); have HL := aM (show ReadsRow (kIns.M Wa (w.heap.size + 3) (fun k => k < WM.heap.size)) kIns.sz Wa (some adL) 1 [(kk, 0, dd, aa, 0, 0, [])] by rw [hadL, hWWa]; exact M_false (lit_one WM _ kk 0 dd aa 0 0)); have HKXa := HKX; rw [← hadL, ← hWWa]; clear hadL hWWa
           refine hK.out _ _ (keep_new HKX.out) ?_
           clear hK K'
           try simp only [Act.put, pB, pC, pD]
           refine re_step (fuel := 6) 1 rfl (by kernel_rfl) (listed' := (bl 22 259839)) (by kernel_rfl) (by kernel_rfl) (fun K' hK => ?_)
           go_wp2_with fail; obtain ⟨Wb, hWWb⟩ : ∃ V, V = (Wa.alloc (.cells #[] 92)) := ⟨_, rfl⟩; have HKS := aM (show Keep (fun i => WM.heap.size ≤ i) Wa Wb by rw [hWWb]; exact keep_new (Keep.of_below ((Below.refl Wa.heap.size Wa).alloc (Nat.le_refl _) _))); have HKX := aM (show Keep (fun _ => False) WM.drew Wb by rw [hWWb]; exact HKX.out.trans (Keep.of_below ((Below.refl Wa.heap.size Wa).alloc (Nat.le_refl _) _))); have HZ := aM (show kIns.R 92 Wb (w.heap.size + 3) (fun _ => True) (.slice (some ⟨Wa.heap.size, 0, none⟩) 0 0) [] by rw [hWWb]; exact lit_empty Wa _ (Nat.le_trans HBS.out HKXa.out.size)); have HZF := aM (show From WM.heap.size (.slice (some ⟨Wa.heap.size, 0, none⟩) 0 0) from fun b hb => by have hb : some Wa.heap.size = some b := hb; injection hb with hb; subst hb; exact HKXa.out.size); have HL := aM (reads_keep HL.out (Keep.of_below (show Below Wa.heap.size Wa Wb by rw [hWWb]; exact (Below.refl _ _).alloc (Nat.le_refl _) _))); rw [← hWWb]; clear hWWb
           refine hK.out _ _ HKS.out ?_
           clear hK K'
           try simp only [Act.put, pB, pC, pD]
           refine re_step (fuel := 5) 8 rfl (by kernel_rfl) (listed' := (bl 22 260095)) (by kernel_rfl) (by kernel_rfl) (fun K' hK => ?_)
           refine rows_append_wp kIns (W := Wb) (w.heap.size + 3) rfl (.tmp 213) (.tmp 219) 79 92 (.agg #[.int .u8 0, .int .u8 0, .int .i64 0, .int .i64 0, .int .i64 0, .int .i64 0, .slice none 0 0]) 64 rfl Try.underlying79 infoIns rfl (show 0 < 7 by decide) (by decide) (.slice (some ⟨Wa.heap.size, 0, none⟩) 0 0) [] (is.take k) AI k cI (fun b => b < WM.heap.size) rfl rfl HZ.out (reads_keep HTK.out HKX.out) HZF.out.ne (Nat.le_trans HBS.out HKX.out.size) (ins_fits2 (by simp only [List.length_nil]; omega)) ?_; intro v2 Wc ho hg hat; rw [List.nil_append] at ho; obtain ⟨Av, cv, rfl, -, -⟩ := Kd.R_reads ho; rw [HTL.out] at ho hat ⊢; have HV := aM ho; have HVF := aM (HZF.out.next HKX.out.size hat); have HKS := aM (show Keep (fun i => WM.heap.size ≤ i) Wb Wc from grown_keep hg HZF.out); have HL := aM (reads_grown HL.out HZF.out (fun a e he => by injection e with e; subst e; have he : some adL.block = some Wa.heap.size := he; injection he with he; rw [HAL.out] at he; have := HZS.out; omega) hg); have HKX := aM (HZF.out.keep (w := WM.drew) rfl HKX.out hg); clear ho hg hat
           refine hK.out _ _ HKS.out ?_
           clear hK K'
           try simp only [Act.put, pB, pC, pD]
           refine re_step (fuel := 4) 11 rfl (by kernel_rfl) (listed' := (bl 22 262143)) (by kernel_rfl) (by kernel_rfl) (fun K' hK => ?_)
           refine rows_append_wp kIns (W := Wc) (w.heap.size + 3) rfl (.tmp 220) (.tmp 222) 79 92 (.agg #[.int .u8 0, .int .u8 0, .int .i64 0, .int .i64 0, .int .i64 0, .int .i64 0, .slice none 0 0]) 64 rfl Try.underlying79 infoIns rfl (show 0 < 7 by decide) (by decide) (.slice Av k cv) (is.take k) [(kk, 0, dd, aa, 0, 0, [])] (some adL) 1 1 (fun b => b < WM.heap.size) rfl rfl HV.out HL.out HVF.out.ne (Nat.le_trans HBS.out HKX.out.size) (ins_fits2 (by rw [HTL.out]; omega)) ?_; intro v3 Wd ho hg hat; obtain ⟨Ax, cx, rfl, -, -⟩ := Kd.R_reads ho; obtain ⟨m3, hm3⟩ : ∃ q, (is.take k ++ [(kk, 0, dd, aa, 0, 0, [])]).length = q := ⟨_, rfl⟩; rw [hm3] at ho hat ⊢; have HM3 := aM hm3; have HX := aM ho; have HXF := aM (HVF.out.next HKX.out.size hat); have HKS := aM (show Keep (fun i => WM.heap.size ≤ i) Wc Wd from grown_keep hg HVF.out); have HKX := aM (HVF.out.keep (w := WM.drew) rfl HKX.out hg); clear ho hg hat hm3
           refine hK.out _ _ HKS.out ?_
           clear hK K'
           try simp only [Act.put, pB, pC, pD]
           refine re_step (fuel := 3) 18 rfl (by kernel_rfl) (listed' := (bl 22 524287)) (by kernel_rfl) (by kernel_rfl) (fun K' hK => ?_)
           refine rows_append_wp kIns (W := Wd) (w.heap.size + 3) rfl (.tmp 223) (.tmp 229) 79 92 (.agg #[.int .u8 0, .int .u8 0, .int .i64 0, .int .i64 0, .int .i64 0, .int .i64 0, .slice none 0 0]) 64 rfl Try.underlying79 infoIns rfl (show 0 < 7 by decide) (by decide) (.slice Ax m3 cx) (is.take k ++ [(kk, 0, dd, aa, 0, 0, [])]) (is.drop k) AD (m - k) (cI - k) (fun b => b < WM.heap.size) rfl rfl HX.out (reads_keep HDR.out HKX.out) HXF.out.ne (Nat.le_trans HBS.out HKX.out.size) (ins_fits2 (by have h1 := HTL.out; have h2 := HM3.out; rw [List.length_append, h1] at h2; simp only [List.length_cons, List.length_nil] at h2; rw [List.length_append, h1]; simp only [List.length_cons, List.length_nil]; omega)) ?_; intro v5 We ho hg hat; obtain ⟨A5, c5, rfl, -, -⟩ := Kd.R_reads ho; obtain ⟨m5, hm5⟩ : ∃ q, (is.take k ++ [(kk, 0, dd, aa, 0, 0, [])] ++ is.drop k).length = q := ⟨_, rfl⟩; rw [hm5] at ho hat ⊢; have H5 := aM ho; have HKS := aM (show Keep (fun i => WM.heap.size ≤ i) Wd We from grown_keep hg HXF.out); have HKX := aM (HXF.out.keep (w := WM.drew) rfl HKX.out hg); clear ho hg hat hm5
           refine hK.out _ _ HKS.out ?_
           clear hK K'
           try simp only [Act.put, pB, pC, pD]
           refine et 19 (bl 22 1048575) rfl (fun w' hR => by go_simp; first | done | with_reducible rfl) rfl ?_
           try simp only [Act.put, pB, pC, pD]
           refine et 20 (bl 22 2097151) rfl (fun w' hR => by go_simp; first | done | with_reducible rfl) rfl ?_
           try simp only [Act.put, pB, pC, pD]
           refine re_free (fuel := 0) 21 rfl (by kernel_rfl) (listed' := (bl 22 4194303)) (by kernel_rfl) (by kernel_rfl) (fun K' hK => ?_)
           have y0 := keep_cell (W := WM.drew) HKX.out HHD.out; have fz := (HCM.out.keep ((Keep.refl _ WM).drew.trans HKX.out)).frz hidx; go_wp2_with fail
           refine hK.out _ _ trivial ?_
           clear hK K'
           try simp only [Act.put, pB, pC, pD]
           refine re_done (by kernel_rfl) ?_
           have HF := aM (HPUT.out We k (kk, 0, dd, aa, 0, 0, []) (.slice A5 m5 c5) (HKM.out.trans ((Keep.refl _ WM).drew.trans HKX.out)) HCI.out H5.out)
           have HFD := aM (HF.out.keep (Keep.refl _ _).drew)
           clear HPUT HKM HKO HKN HKS H5 HX HV HL HZ y0 fz HHN HHD HBX HCM HCN HC
           go_wp2_with fail
           go_roundw
           case rel => exact ⟨i + 3, j + 1, by omega, ⟨by have := HI.out; omega⟩, by go_num, by first | exact HF | exact HFD⟩
           case measure => simp [intOf]; omega
     · have hi60 : i ≤ 60 := by have := HI.out; omega
       have hrs := HC.out.res
       have y0 := cell_at hrs 0 _ rfl
       have y1 := cell_at hrs 1 _ rfl
       have y2 := cell_at hrs 2 _ rfl
       have y3 := cell_at hrs 3 _ rfl
       have v0 := blk_frozen hrs 0
       have v1 := blk_frozen hrs 1
       have v2 := blk_frozen hrs 2
       have v3 := blk_frozen hrs 3
       have HRS := aM hrs
       clear hrs
       have HFIN := aM (fun W' (hk : Keep (fun i => i = w.heap.size + 1) wq W') => HC.out.fin ⟨hp0.1, by omega⟩ hR0 ⟨hS0.1, by omega⟩ ⟨hn7.1, by omega⟩ hj hk)
       have HN7 := aM hn7.2
       have hno : (¬ i + 2 < ms.length) ∨ (i + 2 < ms.length ∧ ¬ i < 60) := by omega
       rcases hno with h1 | ⟨h1, h2⟩
       · have e1 : decide ((i : Int) + 2 < (ms.length : Int)) = false := decide_eq_false (by omega)
         go_upto_region 33 with fail
         clear hgo h1 e1 hi60 hj hmsl hb hbn hS0 hR0 hp0 hP hV hN hG hT hn7 hlm mixed HI HC HC2 HY2
         go_wp2_with fail
         (try simp only [Exit.inBlock, Exit.then]); refine bodyPost_ret (results_cell_row (ty := 54) rfl _ _ (w.heap.size + 1) 54 _ (0, 0) _ rfl (put4 HRS.out _ _ _ _) Try.underlying54 rfl (by kernel_rfl)) rfl ?_
         obtain ⟨bs2, hb2, k1, k2, k3, k4⟩ := HFIN.out _ (put4_far (.int .i64 p) (.int .i64 R) (.int .i64 S) (.slice (some ad) n cm))
         refine ⟨S, ad, cm, bs2, by rw [hb2], by rw [hb2]; exact k1, k2, k3, by rw [hb2]; exact HN7.out, k4⟩
       · have e1 : decide ((i : Int) + 2 < (ms.length : Int)) = true := decide_eq_true (by omega)
         have e2 : decide ((i : Int) < 60) = false := decide_eq_false (by omega)
         go_upto_region 33 with fail
         clear hgo h1 h2 e1 e2 hi60 hj hmsl hb hbn hS0 hR0 hp0 hP hV hN hG hT hn7 hlm mixed HI HC HC2 HY2
         go_wp2_with fail
         (try simp only [Exit.inBlock, Exit.then]); refine bodyPost_ret (results_cell_row (ty := 54) rfl _ _ (w.heap.size + 1) 54 _ (0, 0) _ rfl (put4 HRS.out _ _ _ _) Try.underlying54 rfl (by kernel_rfl)) rfl ?_
         obtain ⟨bs2, hb2, k1, k2, k3, k4⟩ := HFIN.out _ (put4_far (.int .i64 p) (.int .i64 R) (.int .i64 S) (.slice (some ad) n cm))
         refine ⟨S, ad, cm, bs2, by rw [hb2], by rw [hb2]; exact k1, k2, k3, by rw [hb2]; exact HN7.out, k4⟩
end Go.Proofs.Ytnckonglodmfeaa.Ik
