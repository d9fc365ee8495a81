/- Contracts and plain facts that the statements' proofs use (part 10). -/
import Derived.Test.YtnckonglodmfeaaM1
import Derived.Test.YtnckonglodmfeaaM2
import Derived.Test.YtnckonglodmfeaaM3
import Derived.Test.YtnckonglodmfeaaM4
import Derived.Test.YtnckonglodmfeaaM5
import Derived.Test.YtnckonglodmfeaaM6
import Derived.Test.YtnckonglodmfeaaM7
import Derived.Test.YtnckonglodmfeaaM8
import Derived.Test.YtnckonglodmfeaaM9
import Derived.Handy
import Derived.Laws.StructEq
set_option linter.unusedVariables false
set_option linter.unusedSimpArgs false
namespace Go.Proofs.Ytnckonglodmfeaa.Ik
open Go.RowKit Go.Proofs.YtnckonglodmfeaaW.PrintWords Go.Proofs.YtnckonglodmfeaaW.PrintLast Go.Proofs.YtnckonglodmfeaaW.PrintMore B R S Is
set_option maxHeartbeats 4000000 in
set_option maxRecDepth 100000 in
theorem rblocks_calls (l : List Blk) (v t : Int) (most : Nat) (A : Option Addr) (c : Nat) (w : World) (hC : kBlk.C w A l.length l) (hll : l.length ≤ 100000) (hm : most ≤ 400) :
 Calls Try.prog 89 #[.slice A l.length c, .int .i64 v, .int .i64 t, .int .i64 most] w fun r w' => FaultIs (blocksErr v t most l) r ∧ Below w.heap.size w w' := by
 have mixed : Try.prog.follows .mixedOrders = true := by kernel_rfl
 obtain ⟨FE, hFE⟩ : ∃ FE, blocksErr v t most l = FE := ⟨_, rfl⟩
 rw [hFE]
 obtain ⟨VR, hVR⟩ : ∃ VR : Int, VR = if t < 0 then 21 else 23 := ⟨_, rfl⟩
 have HFE := aM (show firstN (l.map (blkErr v t most l.length)) = FE from hFE)
 have HVR := aM hVR
 have HC := aM hC
 have hcase : (t < 0 ∧ VR = 21) ∨ (¬ t < 0 ∧ VR = 23) := by
  rw [hVR]
  by_cases h : t < 0
  · exact .inl ⟨h, if_pos h⟩
  · exact .inr ⟨h, if_neg h⟩
 clear hFE hVR hC
 obtain ⟨W0, hW0⟩ : ∃ W0, W0 = w.alloc (.cells #[.int .i64 0, .int .i64 0, .int .i64 0] 75) := ⟨_, rfl⟩
 have HX := aM (show ∀ W', Below (w.heap.size + 1) W0 W' → W'.cell? ⟨w.heap.size, 0, none⟩ = some (.int .i64 0) ∧ W'.cell? ⟨w.heap.size, 1, none⟩ = some (.int .i64 0) ∧ W'.cell? ⟨w.heap.size, 2, none⟩ = some (.int .i64 0) ∧ W'.frozen? ⟨w.heap.size, 0, none⟩ = false ∧ W'.frozen? ⟨w.heap.size, 1, none⟩ = false ∧ W'.frozen? ⟨w.heap.size, 2, none⟩ = false from fun W' h => by
  subst hW0
  have g' := (h.block w.heap.size (by omega)).trans (heap_alloc_new _ _)
  exact ⟨cell_at g' 0 _ rfl, cell_at g' 1 _ rfl, cell_at g' 2 _ rfl, blk_frozen g' 0, blk_frozen g' 1, blk_frozen g' 2⟩)
 have HA := aM (show Below w.heap.size w W0 by rw [hW0]; exact (Below.refl _ _).alloc (Nat.le_refl _) _)
 have HSZ := aM (show W0.heap.size = w.heap.size + 1 by rw [hW0, World.size_alloc])
 rcases hcase with ⟨ht, rfl⟩ | ⟨ht, rfl⟩
 all_goals
  go_enter Try.func89, Try.ntmps89
  go_wp2_with fail
  rw [← hW0]
  clear hW0
  go_loopw [10] (fun vi wr => ∃ j : Nat, j ≤ l.length ∧ vi = .int .i64 j ∧ Aside0 (firstN ((l.map (blkErr v t most l.length)).take j) = 0) ∧ Aside0 (Below (w.heap.size + 1) W0 wr)) (fun vi _ => l.length - (intOf vi).toNat)
  case atStart => exact ⟨0, by omega, rfl, ⟨rfl⟩, ⟨Below.refl _ _⟩⟩
  case round =>
   obtain ⟨wo, hwo⟩ : ∃ wo, wo = wr := ⟨_, rfl⟩
   subst hwo
   obtain ⟨j, hj, rfl, HN, HZ⟩ := hrel
   by_cases hjl : j < l.length
   · obtain ⟨⟨is, k, a, tt, e⟩, hx⟩ : ∃ x, l[j]? = some x := ⟨_, List.getElem?_eq_getElem hjl⟩
     obtain ⟨ad, A1, n1, rfl, b0, b1, b2, b3, b4, hn1, hC1⟩ := blk_cells HC.out hx
     have HBX := aM (show ∀ W', Below w.heap.size w W' → W'.cell? (ad.add (j * 5)) = some (.slice A1 is.length n1) ∧ W'.cell? ⟨(ad.add (j * 5)).block, (ad.add (j * 5)).off + 1, none⟩ = some (.int .u8 k) ∧ W'.cell? ⟨(ad.add (j * 5)).block, (ad.add (j * 5)).off + 2, none⟩ = some (.int .i64 a) ∧ W'.cell? ⟨(ad.add (j * 5)).block, (ad.add (j * 5)).off + 3, none⟩ = some (.int .i64 tt) ∧ W'.cell? ⟨(ad.add (j * 5)).block, (ad.add (j * 5)).off + 4, none⟩ = some (.int .i64 e) from fun W' h => ⟨pw_cell_below h b0, pw_cell_below h b1, pw_cell_below h b2, pw_cell_below h b3, pw_cell_below h b4⟩)
     have HC1 := aM hC1
     have HIL := aM hC1.2.1
     have HMX := aM (show (l.map (blkErr v t most l.length))[j]? = some (blkErr v t most l.length (is, k, a, tt, e)) by rw [List.getElem?_map, hx]; rfl)
     clear hx hC1 b0 b1 b2 b3 b4
     have hwb := HA.out.trans (HZ.out.mono (by omega))
     obtain ⟨b0, b1, b2, b3, b4⟩ := HBX.out wo hwb
     obtain ⟨r0, r1, r2, r3, r4, r5⟩ := HX.out wo HZ.out
     clear hwb
     by_cases hmany : most < is.length
     · have HE := aM (show FE = 9 by rw [← HFE.out]; exact (firstN_hit HN.out HMX.out (by simp [blkErr, hmany])).trans (by simp [blkErr, hmany]))
       go_wp2
       (have q := fault_set r0 r1 r2; have q0 := fun x y z => (q x y z).1; have q1 := fun x y z => (q x y z).2.1; have q2 := fun x y z => (q x y z).2.2; clear q; (try simp only [Exit.inBlock, Exit.then]); refine bodyPost_ret (by simp [results, Try.results89, go_sem, q0, q1, q2]; try rfl) rfl ?_)
       exact ⟨⟨_, _, by rw [HE.out]⟩, below_set (HA.out.trans (HZ.out.mono (by omega))) (by omega) _ _ _⟩
     · obtain ⟨En, hEn⟩ : ∃ En, endErr v l.length (if t < 0 then 21 else 23) (k, a, tt, e) = En := ⟨_, rfl⟩
       obtain ⟨M, hM⟩ : ∃ M, is.map (insErr v t) ++ [En] = M := ⟨_, rfl⟩
       have HEN := aM (by rw [← HVR.out] at hEn; exact hEn)
       have HME := aM (show blkErr v t most l.length (is, k, a, tt, e) = firstN M by rw [← hM, ← hEn]; exact if_neg hmany)
       have HML := aM (show M[is.length]? = some En by rw [← hM]; simp)
       have HMS := aM (show M.length = is.length + 1 by rw [← hM]; simp)
       have HMI := aM (show ∀ (i : Nat) (q : Ins), is[i]? = some q → M[i]? = some (insErr v t q) from fun i q h => by
        have hi := (List.getElem?_eq_some_iff.1 h).1
        rw [← hM, List.getElem?_append_left (by simpa using hi), List.getElem?_map, h]; rfl)
       have HHIT := aM (show ∀ (i : Nat) (y : Int), firstN (M.take i) = 0 → M[i]? = some y → y ≠ 0 → FE = y from fun i y h1 h2 h3 => by
        have h4 := firstN_hit h1 h2 h3
        rw [← HFE.out, firstN_hit HN.out HMX.out (by rw [HME.out, h4]; exact h3), HME.out, h4])
       clear hEn hM r0 r1 r2 r3 r4 r5
       go_wp2_with fail
       go_loopw [11] (fun vi wi => ∃ i : Nat, i ≤ is.length ∧ vi = .int .i64 i ∧ Aside0 (firstN (M.take i) = 0) ∧ Aside0 (Below (w.heap.size + 1) W0 wi)) (fun vi _ => is.length - (intOf vi).toNat)
       case atStart => exact ⟨0, by omega, rfl, ⟨rfl⟩, HZ⟩
       case round =>
        clear b0 b1 b2 b3 b4 HZ
        obtain ⟨wi, hwi⟩ : ∃ wi, wi = wr := ⟨_, rfl⟩
        subst hwi
        obtain ⟨i, hi, rfl, HNi, HZ⟩ := hrel
        have HWB := aM (HA.out.trans (HZ.out.mono (by omega)))
        obtain ⟨b0, b1, b2, b3, b4⟩ := HBX.out wi HWB.out
        by_cases hil : i < is.length
        · obtain ⟨⟨k1, op, d, a1, bb, nn, args⟩, hq⟩ : ∃ q, is[i]? = some q := ⟨_, List.getElem?_eq_getElem hil⟩
          obtain ⟨ad2, A2, n2, rfl, i0, i1, i2, i3, i4, i5, i6, hn2, hC2⟩ := ins_cells (Kd.C_below HC1.out HWB.out) hq
          have HMQ := aM (HMI.out i _ hq)
          have HI := aM hC2
          obtain ⟨y, hy⟩ : ∃ y, insErr v t (k1, op, d, a1, bb, nn, args) = y := ⟨_, rfl⟩
          have HQ := aM hy
          rw [hy] at HMQ
          clear hy hq hC2
          by_cases hy0 : y = 0
          · subst hy0
            have HN2 := aM (firstN_take HNi.out HMQ.out)
            go_wp2_with (go_at_call 122; refine (rins_calls k1 op d a1 bb nn v t args A2 n2 _ HI.out hn2).mono ?_; rintro _ w2 ⟨rfl, hb⟩; rw [HQ.out]; have HZ2 := aM (HZ.out.trans (hb.mono (by have := HZ.out.size; have := HSZ.out; omega))); clear hb i0 i1 i2 i3 i4 i5 i6 b0 b1 b2 b3 b4)
            go_roundw
            case rel => exact ⟨i + 1, by omega, by go_num, HN2, HZ2⟩
            case measure => simp [intOf]; omega
          · have HE := aM (HHIT.out i y HNi.out HMQ.out hy0)
            have hyb : (y == 0) = false := beq_eq_false_iff_ne.mpr hy0
            have hyn : (y != 0) = true := bne_iff_ne.mpr hy0
            clear hy0
            go_wp2_with (go_at_call 122; refine (rins_calls k1 op d a1 bb nn v t args A2 n2 _ HI.out hn2).mono ?_; rintro _ w2 ⟨rfl, hb⟩; rw [HQ.out]; have HZ2 := aM (HZ.out.trans (hb.mono (by have := HZ.out.size; have := HSZ.out; omega))); clear hb i0 i1 i2 i3 i4 i5 i6 b0 b1 b2 b3 b4; obtain ⟨r0, r1, r2, r3, r4, r5⟩ := HX.out w2 HZ2.out)
            (have q := fault_set r0 r1 r2; have q0 := fun x y z => (q x y z).1; have q1 := fun x y z => (q x y z).2.1; have q2 := fun x y z => (q x y z).2.2; clear q; (try simp only [Exit.inBlock, Exit.then]); refine bodyPost_ret (by simp [results, Try.results89, go_sem, q0, q1, q2]; try rfl) rfl ?_)
            exact ⟨⟨_, _, by rw [HE.out]⟩, below_set (HA.out.trans (HZ2.out.mono (by omega))) (by omega) _ _ _⟩
        · obtain rfl : i = is.length := by omega
          have HQ := HEN
          by_cases hy0 : En = 0
          · subst hy0
            have HN2 := aM (show firstN M = 0 by rw [← List.take_of_length_le (l := M) (i := is.length + 1) (by rw [HMS.out]; exact Nat.le_refl _)]; exact firstN_take HNi.out HML.out)
            have HN3 := aM ((firstN_take HN.out HMX.out).trans (HME.out.trans HN2.out))
            go_wp2_with (go_at_call 123; refine (rend_calls _ _ _ _ _ _ _ _).mono ?_; rintro _ w2 ⟨rfl, hb⟩; rw [HQ.out]; have HZ2 := aM (HZ.out.trans (hb.mono (by have := HZ.out.size; have := HSZ.out; omega))); clear hb b0 b1 b2 b3 b4)
            go_roundw
            case rel => exact ⟨j + 1, by omega, by go_num, HN3, HZ2⟩
            case measure => simp [intOf]; omega
          · have HE := aM (HHIT.out is.length En HNi.out HML.out hy0)
            have hyb : (En == 0) = false := beq_eq_false_iff_ne.mpr hy0
            have hyn : (En != 0) = true := bne_iff_ne.mpr hy0
            clear hy0
            go_wp2_with (go_at_call 123; refine (rend_calls _ _ _ _ _ _ _ _).mono ?_; rintro _ w2 ⟨rfl, hb⟩; rw [HQ.out]; have HZ2 := aM (HZ.out.trans (hb.mono (by have := HZ.out.size; have := HSZ.out; omega))); obtain ⟨b0', b1', b2', b3', b4'⟩ := HBX.out w2 (HA.out.trans (HZ2.out.mono (by omega))); obtain ⟨r0, r1, r2, r3, r4, r5⟩ := HX.out w2 HZ2.out; clear hb b0 b1 b2 b3 b4)
            (have q := fault_set r0 r1 r2; have q0 := fun x y z => (q x y z).1; have q1 := fun x y z => (q x y z).2.1; have q2 := fun x y z => (q x y z).2.2; clear q; (try simp only [Exit.inBlock, Exit.then]); refine bodyPost_ret (by simp [results, Try.results89, go_sem, q0, q1, q2]; try rfl) rfl ?_)
            exact ⟨⟨_, _, by rw [HE.out]⟩, below_set (HA.out.trans (HZ2.out.mono (by omega))) (by omega) _ _ _⟩
   · obtain rfl : j = l.length := by omega
     have HE := aM (show FE = 0 by have h := HN.out; rw [List.take_of_length_le (by simp)] at h; rw [← HFE.out, h])
     obtain ⟨r0, r1, r2, r3, r4, r5⟩ := HX.out wo HZ.out
     go_wp2
     (have q := fault_set r0 r1 r2; have q0 := fun x y z => (q x y z).1; have q1 := fun x y z => (q x y z).2.1; have q2 := fun x y z => (q x y z).2.2; clear q; (try simp only [Exit.inBlock, Exit.then]); refine bodyPost_ret (by simp [results, Try.results89, go_sem, q0, q1, q2]; try rfl) rfl ?_)
     exact ⟨⟨_, _, by rw [HE.out]⟩, below_set (HA.out.trans (HZ.out.mono (by omega))) (by omega) _ _ _⟩
end Go.Proofs.Ytnckonglodmfeaa.Ik
namespace Go.Proofs.Ytnckonglodmfeaa.Ik
open Go.RowKit Go.Proofs.YtnckonglodmfeaaW.PrintWords Go.Proofs.YtnckonglodmfeaaW.PrintLast Go.Proofs.YtnckonglodmfeaaW.PrintMore B R S Is
end Go.Proofs.Ytnckonglodmfeaa.Ik
namespace Go.Proofs.Ytnckonglodmfeaa.Ik
open Ls Go.RowKit Go.Proofs.YtnckonglodmfeaaW.PrintWords Go.Proofs.YtnckonglodmfeaaW.PrintLast Go.Proofs.YtnckonglodmfeaaW.PrintMore B R S Is Js
structure QfS (w0 W : World) (g b gb : Nat) (s : St) (F : Array Value) : Prop where
 rd : Rq W g b s
 res : W.heap[w0.heap.size]? = some (.cells #[.int .i64 0, .int .i64 0, .slice none 0 0] 25 (0, 0))
 bx : W.heap[gb]? = some (.cells F 25 (0, 0))
 below : Below w0.heap.size w0 W
 hg : w0.heap.size + 1 ≤ g
 hgb : g < gb
 hbb : b < gb
theorem QfS.step {w0 W W' : World} {g b gb : Nat} {s s' : St} {F : Array Value} (h : QfS w0 W g b gb s F) (hk : Keep (· = g) W W') (hr : Rq W' g b s') : QfS w0 W' g b gb s' F := by
 have h1 := h.hg
 have h2 := h.hgb
 have hs := h.below.size
 exact ⟨hr, (hk.block _ (blk_lt h.res) (fun e => by have e : w0.heap.size = g := e; omega)).trans h.res, (hk.block gb (blk_lt h.bx) (fun e => by have e : gb = g := e; omega)).trans h.bx, h.below.trans (keep_below hk hs (fun i e => by have e : i = g := e; omega)), h1, h2, h.hbb⟩
theorem QfS.set {w0 W : World} {g b gb : Nat} {s : St} {F : Array Value} (h : QfS w0 W g b gb s F) (j : Nat) (x : Value) : QfS w0 (W.setCell ⟨gb, j, none⟩ x) g b gb s (F.setIfInBounds j x) := by
 have h1 := h.hg
 have h2 := h.hgb
 have h3 := h.hbb
 have hk : Keep (· = gb) W (W.setCell ⟨gb, j, none⟩ x) := (Keep.refl _ _).setCell ⟨gb, j, none⟩ x (fun _ => rfl)
 have ho : ∀ i, i ≠ gb → (W.setCell ⟨gb, j, none⟩ x).heap[i]? = W.heap[i]? := fun i hi => Below.heap_setCell _ _ _ _ hi
 exact ⟨h.rd.keep hk (by omega) (by omega), (ho _ (by omega)).trans h.res, heap_setCell_same W gb j F _ _ h.bx, h.below.setCell (by show w0.heap.size ≤ gb; omega) _, h1, h2, h3⟩
end Go.Proofs.Ytnckonglodmfeaa.Ik
namespace Go.Proofs.Ytnckonglodmfeaa.Ik
open Ls Lc Go.RowKit Go.Proofs.YtnckonglodmfeaaW.PrintWords Go.Proofs.YtnckonglodmfeaaW.PrintLast Go.Proofs.YtnckonglodmfeaaW.PrintMore B R S Is Js Gs Gc
theorem Rq.setb {W : World} {g b gb : Nat} {s : St} (h : Rq W g b s) (hg : g ≠ gb) (hb : b ≠ gb) (j : Nat) (x : Value) : Rq (W.setCell ⟨gb, j, none⟩ x) g b s :=
 h.keep (S := (· = gb)) ((Keep.refl _ _).setCell ⟨gb, j, none⟩ x (fun _ => rfl)) hg hb
theorem keep_drews {S : Nat → Prop} {a b : World} (h : Keep S a b) : Keep S a.drew b.drew := ⟨h.os, h.tape, h.output, h.size, h.block⟩
theorem rq_num2 (g b : Nat) (s : St) (w : World) (h : Rq w g b s) :
 Calls Try.prog 43 #[.pointer (some ⟨g, 0, none⟩)] w fun e w' => e = .returned (.int .u64 (num s.1 s.2).1) ∧ Rq w' g b (num s.1 s.2).2 ∧ Keep (· = g) w w' ∧ w'.heap.size = w.heap.size := by
 refine (Lr.num_calls g b s.1 s.2 w h.1 h.2.1).mono ?_
 rintro e w' ⟨h1, h2, h3, h4⟩
 exact ⟨h1, ⟨h2, num_by s.1 s.2 h.2.1, by rw [h4]; exact h.2.2⟩, h3, h4⟩
end Go.Proofs.Ytnckonglodmfeaa.Ik
namespace Go.Proofs.Ytnckonglodmfeaa.Ik
open Ls Lc Go.RowKit Go.Proofs.YtnckonglodmfeaaW.PrintWords Go.Proofs.YtnckonglodmfeaaW.PrintLast Go.Proofs.YtnckonglodmfeaaW.PrintMore B R S Is Js Gs Gc
theorem lput_n (l : List Int) (n : Nat) (hn : l.length = n) (A : Option Addr) (c : Nat) (x : Int) (h0 : 0 ≤ x) (h1 : x < 18446744073709551616) (w : World) (hC : kU8.C w A n l) (hll : n ≤ 100000000) :
 Calls Try.prog 38 #[.slice A n c, .int .u64 x] w fun e w' => ∃ m A' n' c', e = .returned (.slice A' n' c') ∧ m = l ++ putl x.toNat ∧ m.length = n' ∧ n' ≤ n + 10 ∧ n' ≤ c' ∧ kU8.R 5 w' w.heap.size (fun _ => True) (.slice A' n' c') m ∧ kU8.C w' A' n' m ∧ Below w.heap.size w w' := by
 subst hn
 refine (Lc.put_calls A c l x w hC (by omega) h0 h1).mono ?_
 rintro e w' ⟨v, rfl, hr, hb⟩
 obtain ⟨A', c', rfl, hl, hC'⟩ := Kd.R_reads hr
 have h10 := putl_ten x.toNat (by omega)
 exact ⟨_, A', _, c', rfl, rfl, rfl, by rw [List.length_append]; omega, hl, hr, hC', hb⟩
theorem field_num (x : Int) (h0 : 0 ≤ x) (h1 : x < 18446744073709551616) : fieldL x = putl x.toNat := by rw [fieldL, wrU64 x h0 h1]
theorem ask_bad {j n r : Int} {f : Fun} (h1 : funcErr f = 0) (h2 : j < 0 ∨ 16 ≤ j ∨ r < 0 ∨ 8 < r) : askErr (j, n, r, f) = 2 := by
 simp [askErr, h1, h2]
theorem ask_fit {j n r : Int} {f : Fun} (h1 : funcErr f = 0) (h2 : ¬ (j < 0 ∨ 16 ≤ j ∨ r < 0 ∨ 8 < r)) : askErr (j, n, r, f) = 0 := by
 simp [askErr, h1, h2]
def AskC (W : World) (g : Nat) (j n r p v : Int) (s : Value) : Prop := W.cell? ⟨g, 0, none⟩ = some (.int .i64 j) ∧ W.cell? ⟨g, 1, none⟩ = some (.int .u64 n) ∧ W.cell? ⟨g, 2, none⟩ = some (.int .i64 r) ∧ W.cell? ⟨g, 3, none⟩ = some (.int .i64 p) ∧ W.cell? ⟨g, 4, none⟩ = some (.int .i64 v) ∧ W.cell? ⟨g, 5, none⟩ = some s
theorem ask_box {w W' : World} {j n r p v : Int} {s : Value} {e : Nat} (h : Below (w.heap.size + 1) (w.alloc (.cells #[.int .i64 j, .int .u64 n, .int .i64 r, .int .i64 p, .int .i64 v, s] e)) W') : AskC W' w.heap.size j n r p v s := by
 have g := below_cells (h.mono (by rw [World.size_alloc]; exact Nat.le_refl _))
 exact ⟨cell_at g 0 _ rfl, cell_at g 1 _ rfl, cell_at g 2 _ rfl, cell_at g 3 _ rfl, cell_at g 4 _ rfl, cell_at g 5 _ rfl⟩
set_option maxHeartbeats 4000000 in
set_option maxRecDepth 100000 in
theorem putask_calls (j n r p v : Int) (l : List Blk) (A : Option Addr) (c : Nat) (w : World) (hn0 : 0 ≤ n) (hn1 : n < 18446744073709551616) (hC : kBlk.C w A l.length l) (hR : ∀ b ∈ l, BlkR b) (hll : l.length ≤ 100000) :
 Calls Try.prog 13 #[.agg #[.int .i64 j, .int .u64 n, .int .i64 r, .int .i64 p, .int .i64 v, .slice A l.length c]] w fun e w' => BytesOr (askErr (j, n, r, p, v, l)) (askErr (j, n, r, p, v, l)) (askL (j, n, r, p, v, l)) w' e ∧ Below w.heap.size w w' := by
 have mixed : Try.prog.follows .mixedOrders = true := by kernel_rfl
 have HC := aM hC
 have HR := aM hR
 have HA := aM (show Below w.heap.size w (w.alloc (.cells #[.int .i64 j, .int .u64 n, .int .i64 r, .int .i64 p, .int .i64 v, .slice A l.length c] 27)) from (Below.refl _ _).alloc (Nat.le_refl _) _)
 have HSZ := aM (World.size_alloc w (.cells #[.int .i64 j, .int .u64 n, .int .i64 r, .int .i64 p, .int .i64 v, .slice A l.length c] 27))
 have HX := aM (fun W' (h : Below (w.heap.size + 1) (w.alloc (.cells #[.int .i64 j, .int .u64 n, .int .i64 r, .int .i64 p, .int .i64 v, .slice A l.length c] 27)) W') => ask_box h)
 obtain ⟨FE, hFE⟩ : ∃ FE, funcErr (p, v, l) = FE := ⟨_, rfl⟩
 have HFE := aM hFE
 clear hC hR
 by_cases hf : FE = 0
 case neg =>
  have HE := aM (show askErr (j, n, r, p, v, l) = 30 from if_pos (by show funcErr (p, v, l) ≠ 0; rw [hFE]; exact hf))
  rw [HE.out]
  clear hFE
  go_enter Try.func13, Try.ntmps13
  go_wp2_with ((go_at_call 37; refine (wfunc_calls p v l A c _ (Kd.C_below HC.out HA.out) HR.out hll).mono ?_; rintro _ w1 ⟨hbo, hb⟩; have HB1 := aM (show Below (w.heap.size + 1) (w.alloc (.cells #[.int .i64 j, .int .u64 n, .int .i64 r, .int .i64 p, .int .i64 v, .slice A l.length c] 27)) w1 from hb.mono (by rw [HSZ.out]; exact Nat.le_refl _)); rw [HFE.out] at hbo); obtain rfl := hbo.1 hf; clear hbo hb)
  go_returns
  exact ⟨⟨fun _ => rfl, fun h => by cases h⟩, HA.out.trans (HB1.out.mono (by omega))⟩
 subst hf
 by_cases hbad : j < 0 ∨ 16 ≤ j ∨ r < 0 ∨ 8 < r
 · rw [ask_bad hFE hbad]
   have hbd : (j < 0) ∨ (¬ j < 0 ∧ 16 ≤ j) ∨ (¬ j < 0 ∧ ¬ 16 ≤ j ∧ r < 0) ∨ (¬ j < 0 ∧ ¬ 16 ≤ j ∧ ¬ r < 0 ∧ 8 < r) := by omega
   clear hbad hFE
   rcases hbd with h1 | ⟨h1, h2⟩ | ⟨h1, h2, h3⟩ | ⟨h1, h2, h3, h4⟩
   all_goals
    go_enter Try.func13, Try.ntmps13
    go_wp2_with ((go_at_call 37; refine (wfunc_calls p v l A c _ (Kd.C_below HC.out HA.out) HR.out hll).mono ?_; rintro _ w1 ⟨hbo, hb⟩; have HB1 := aM (show Below (w.heap.size + 1) (w.alloc (.cells #[.int .i64 j, .int .u64 n, .int .i64 r, .int .i64 p, .int .i64 v, .slice A l.length c] 27)) w1 from hb.mono (by rw [HSZ.out]; exact Nat.le_refl _)); rw [HFE.out] at hbo); obtain ⟨A1, c1, rfl, hlc1, hC1⟩ := hbo.2 rfl; obtain ⟨n1, hn1'⟩ : ∃ n1, (funcL (p, v, l)).length = n1 := ⟨_, rfl⟩; rw [hn1']; clear hbo hb hC1 hlc1 hn1'; obtain ⟨x0, x1, x2, x3, x4, x5⟩ := HX.out w1 HB1.out)
    go_returns
    exact ⟨⟨fun _ => rfl, fun h => by cases h⟩, HA.out.trans (HB1.out.mono (by omega))⟩
 · rw [ask_fit hFE hbad]
   have hj0 : 0 ≤ j := by omega
   have hj1 : j < 16 := by omega
   have hr0 : 0 ≤ r := by omega
   have hr1 : r ≤ 8 := by omega
   have HFL := aM (func_len p v l hFE HR.out)
   have h1 : ¬ j < 0 := by omega
   have h2 : ¬ 16 ≤ j := by omega
   have h3 : ¬ r < 0 := by omega
   have h4 : ¬ 8 < r := by omega
   obtain ⟨fb, hfb⟩ : ∃ fb, funcL (p, v, l) = fb := ⟨_, rfl⟩
   rw [hfb] at HFL
   have HFB := aM hfb
   clear hbad hFE hfb
   go_enter Try.func13, Try.ntmps13
   go_upto_region 6 with ((go_at_call 37; refine (wfunc_calls p v l A c _ (Kd.C_below HC.out HA.out) HR.out hll).mono ?_; rintro _ w1 ⟨hbo, hb⟩; have HB1 := aM (show Below (w.heap.size + 1) (w.alloc (.cells #[.int .i64 j, .int .u64 n, .int .i64 r, .int .i64 p, .int .i64 v, .slice A l.length c] 27)) w1 from hb.mono (by rw [HSZ.out]; exact Nat.le_refl _)); rw [HFE.out] at hbo); obtain ⟨A1, c1, rfl, hlc1, hC1⟩ := hbo.2 rfl; rw [HFB.out] at hlc1 hC1; obtain ⟨n1, hn1'⟩ : ∃ n1, fb.length = n1 := ⟨_, rfl⟩; rw [HFB.out, hn1']; rw [hn1'] at hC1 hlc1; have HC1 := aM hC1; have HN1 := aM hn1'; clear hbo hb hC1 hn1'; obtain ⟨x0, x1, x2, x3, x4, x5⟩ := HX.out w1 HB1.out)
   have HXK := aM (show ∀ W', Keep (fun _ => False) w1.drew W' → AskC W' w.heap.size j n r p v (.slice A l.length c) from fun W' h => HX.out W' (Keep.below_then HB1.out.drew h (by have h1 := HB1.out.size; rw [HSZ.out] at h1; exact h1) (fun _ _ => id)))
   clear x0 x1 x2 x3 x4 x5
   refine rk_start (fun _ => False) (by kernel_rfl) (n := 12) (l := (bl 12 0)) (by kernel_rfl) (by kernel_rfl) ?_
   refine kt 0 (bl 12 1) rfl (fun w' hR => by go_simp; first | done | with_reducible rfl) rfl ?_
   try simp only [Act.put, pB, pC, pD]
   refine kt 1 (bl 12 3) rfl (fun w' hR => by obtain ⟨x0, x1, x2, x3, x4, x5⟩ := HXK.out w' hR; go_simp; first | done | with_reducible rfl) rfl ?_
   try simp only [Act.put, pB, pC, pD]
   refine kt 2 (bl 12 7) rfl (fun w' hR => by have x9 := wrU64 j (by omega) (by omega); go_simp; first | done | with_reducible rfl) rfl ?_
   try simp only [Act.put, pB, pC, pD]
   refine kt 4 (bl 12 23) rfl (fun w' hR => by go_simp; first | done | with_reducible rfl) rfl ?_
   try simp only [Act.put, pB, pC, pD]
   refine kt 5 (bl 12 55) rfl (fun w' hR => by obtain ⟨x0, x1, x2, x3, x4, x5⟩ := HXK.out w' hR; go_simp; first | done | with_reducible rfl) rfl ?_
   try simp only [Act.put, pB, pC, pD]
   refine kt 7 (bl 12 183) rfl (fun w' hR => by go_simp; first | done | with_reducible rfl) rfl ?_
   try simp only [Act.put, pB, pC, pD]
   refine kt 8 (bl 12 439) rfl (fun w' hR => by obtain ⟨x0, x1, x2, x3, x4, x5⟩ := HXK.out w' hR; go_simp; first | done | with_reducible rfl) rfl ?_
   try simp only [Act.put, pB, pC, pD]
   refine kt 9 (bl 12 951) rfl (fun w' hR => by have x9 := wrU64 r (by omega) (by omega); go_simp; first | done | with_reducible rfl) rfl ?_
   try simp only [Act.put, pB, pC, pD]
   refine rk_step (fuel := 3) 3 rfl (by kernel_rfl) (listed' := (bl 12 959)) (by kernel_rfl) (by kernel_rfl) (fun K' hK => ?_)
   go_wp2_with (go_at_call 38; refine (lput_n [] 0 rfl none 0 j (by omega) (by omega) _ (C_nil .u8 _) (by omega)).mono ?_; rintro _ w2 ⟨m2, A2, n2, c2, rfl, hm2, hmn2, hn2, hc2, -, hC2, hb2⟩; have HM2 := aM hm2; have HMN2 := aM hmn2; have HC2 := aM hC2; have HB2 := aM hb2; clear hm2 hmn2 hC2 hb2)
   refine hK.out _ _ (Keep.of_below HB2.out) ?_
   clear hK K'
   try simp only [Act.put, pB, pC, pD]
   refine rk_step (fuel := 2) 6 rfl (by kernel_rfl) (listed' := (bl 12 1023)) (by kernel_rfl) (by kernel_rfl) (fun K' hK => ?_)
   go_wp2_with (go_at_call 38; refine (lput_n m2 n2 HMN2.out A2 c2 n hn0 hn1 _ HC2.out (by omega)).mono ?_; rintro _ w3 ⟨m3, A3, n3, c3, rfl, hm3, hmn3, hn3, hc3, -, hC3, hb3⟩; have HM3 := aM hm3; have HMN3 := aM hmn3; have HC3 := aM hC3; have HB3 := aM hb3; clear hm3 hmn3 hC3 hb3)
   refine hK.out _ _ (Keep.of_below HB3.out) ?_
   clear hK K'
   try simp only [Act.put, pB, pC, pD]
   refine rk_step (fuel := 1) 10 rfl (by kernel_rfl) (listed' := (bl 12 2047)) (by kernel_rfl) (by kernel_rfl) (fun K' hK => ?_)
   go_wp2_with (go_at_call 38; refine (lput_n m3 n3 HMN3.out A3 c3 r (by omega) (by omega) _ HC3.out (by omega)).mono ?_; rintro _ w4 ⟨m4, A4, n4, c4, rfl, hm4, hmn4, hn4, hc4, hR4, hC4, hb4⟩; have HM4 := aM hm4; have HMN4 := aM hmn4; have HR4 := aM hR4; have HB4 := aM hb4; clear hm4 hmn4 hC4 hR4 hb4)
   refine hK.out _ _ (Keep.of_below HB4.out) ?_
   clear hK K'
   try simp only [Act.put, pB, pC, pD]
   refine kt 11 (bl 12 4095) rfl (fun w' hR => by go_simp; first | done | with_reducible rfl) rfl ?_
   try simp only [Act.put, pB, pC, pD]
   refine rk_done (by kernel_rfl) ?_
   have hz1 := HB1.out.size
   have HW1 := aM (HA.out.trans (HB1.out.mono (by omega)))
   have HW2 := aM (HW1.out.drew.trans (HB2.out.mono HW1.out.size))
   have HW3 := aM (HW2.out.trans (HB3.out.mono HW2.out.size))
   have HW4 := aM (HW3.out.trans (HB4.out.mono HW3.out.size))
   have HR4' := aM (Kd.R_lower HR4.out HW3.out.size)
   have HC14 := aM (Kd.C_below (Kd.C_below (Kd.C_below (Kd.C_drew HC1.out) HB2.out) HB3.out) HB4.out)
   obtain ⟨AL, hAL⟩ : ∃ AL, askB (j, n, r, p, v, l) = AL := ⟨_, rfl⟩
   have HAL := aM (show m4 ++ fb = AL by rw [← hAL, HM4.out, HM3.out, HM2.out, ← HFB.out]; simp [askB, field_num j hj0 (by omega), field_num r hr0 (by omega)])
   have HALB := aM (show By AL by rw [← hAL]; exact ask_byB _)
   have HAL2 := aM hAL
   obtain ⟨fl, hfl⟩ : ∃ fl, layL 2 AL = fl := ⟨_, rfl⟩
   obtain ⟨nf, hnf⟩ : ∃ nf, fl.length = nf := ⟨_, rfl⟩
   obtain ⟨na, hna⟩ : ∃ na, AL.length = na := ⟨_, rfl⟩
   have HNA := aM hna
   have HNF := aM hnf
   have HFLL := aM hfl
   have hnal : na ≤ 65536 := by
    have h5 := HFL.out
    rw [← hna, ← HAL.out, List.length_append, HMN4.out]
    omega
   clear hAL hfl hnf hna
   go_wp2_with (first | ((with_reducible refine gate_builtin (b := .append) (xs := #[.tmp 47, .tmp 48]) rfl ?_); at_builtin; refine Kd.R_append_rows (Kd.int .u8) (w0 := w) w.heap.size rfl (.tmp 47) (.tmp 48) 28 5 (.int .u8 0) 1 rfl Try.underlying28 infoU8 rfl (by decide) (by omega) (.slice A4 n4 c4) m4 fb _ _ _ (fun _ => True) (fun _ => False) rfl rfl ?aO ?aR (fun _ _ h => h) (fun _ h => h.elim) ?aF ?aB ?aS ?aL ?_; (case aR => exact HC14.out); (case aB => exact HW4.out); (case aF => exact (fun _ _ => trivial)); (case aO => exact HR4'.out); (case aS => (have := HW4.out.size; omega)); (case aL => (have := HMN4.out; have := HN1.out; have := HFL.out; omega)); (intro v5 w5 ho hb5 hg hat; rw [HAL.out] at ho; obtain ⟨A5, c5, rfl, hlc5, hC5⟩ := Kd.R_reads ho; rw [HNA.out] at hlc5 hC5 ⊢; have HC5 := aM hC5; have HB5 := aM hb5; clear ho hb5 hg hat hC5)) | (go_at_call 39; refine (lay_n 2 (by decide) (by decide) A5 c5 AL na HNA.out fl nf HFLL.out HNF.out _ HC5.out hlc5 HALB.out hnal).mono ?_; rintro e w6 ⟨A6, c6, rfl, -, hC6, hc6, hb6⟩; have HC6 := aM hC6; have HB6 := aM (HB5.out.trans (hb6.mono HB5.out.size)); clear hC6 hb6))
   go_returns
   have e1 : askL (j, n, r, p, v, l) = fl := by rw [← HFLL.out, ← HAL2.out]; rfl
   rw [e1]
   exact ⟨⟨fun h => absurd rfl h, fun _ => ⟨A6, c6, by rw [HNF.out]; rfl, by rw [HNF.out]; exact hc6, by rw [HNF.out]; exact HC6.out⟩⟩, HB6.out⟩
end Go.Proofs.Ytnckonglodmfeaa.Ik
namespace Go.Proofs.Ytnckonglodmfeaa.Ik
open Ls Lc Go.RowKit Go.Proofs.YtnckonglodmfeaaW.PrintWords Go.Proofs.YtnckonglodmfeaaW.PrintLast Go.Proofs.YtnckonglodmfeaaW.PrintMore B R S Is Js Gs Gc
theorem rputR_num (l : List Int) (n : Nat) (hn : l.length = n) (A : Option Addr) (c : Nat) (x : Int) (h0 : 0 ≤ x) (h1 : x < 18446744073709551616) (w : World) (hC : kU8.C w A n l) (hll : n ≤ 100000000) :
 Calls Try.prog 41 #[.slice A n c, .int .u64 x] w fun e w' => ∃ m A' n' c', e = .returned (.slice A' n' c') ∧ m = l ++ fieldL x ∧ m.length = n' ∧ n' ≤ n + 10 ∧ n' ≤ c' ∧ kU8.R 5 w' w.heap.size (fun _ => True) (.slice A' n' c') m ∧ Below w.heap.size w w' := by
 subst hn
 refine (Lr.put_calls A c l x w hC (by omega) h0 h1).mono ?_
 rintro e w' ⟨v, rfl, hr, hb⟩
 obtain ⟨A', c', rfl, h2, h3⟩ := Kd.R_reads hr
 have h10 := putl_ten x.toNat (by omega)
 exact ⟨_, A', _, c', rfl, by rw [field_num x h0 h1], rfl, by rw [List.length_append]; omega, h2, hr, hb⟩
end Go.Proofs.Ytnckonglodmfeaa.Ik
namespace Go.Proofs.Ytnckonglodmfeaa.Ik
open Go.RowKit Go.Proofs.YtnckonglodmfeaaW.PrintWords Go.Proofs.YtnckonglodmfeaaW.PrintLast Go.Proofs.YtnckonglodmfeaaW.PrintMore B R S Is
set_option maxRecDepth 100000 in
theorem same_ints (l m : List Int) (A B : Option Addr) (c e : Nat) (w : World) (hA : kI.C w A l.length l) (hB : kI.C w B m.length m) :
 Calls Try.prog 117 #[.slice A l.length c, .slice B m.length e] w fun r w' => r = .returned (.bool (decide (l = m))) ∧ Below w.heap.size w w' := by
 have mixed : Try.prog.follows .mixedOrders = true := by kernel_rfl
 have HA := aM hA
 have HB := aM hB
 have hl := hA.2.1
 have hm := hB.2.1
 clear hA hB
 by_cases hlm : l.length = m.length
 · rw [← hlm]
   have HLM := aM hlm
   clear hlm hm
   go_enter Try.func117, Try.ntmps117
   go_wp2_with fail
   go_loopw [5] (fun vi wr => ∃ j : Nat, j ≤ l.length ∧ vi = .int .i64 j ∧ Aside0 (l.take j = m.take j) ∧ Aside0 (Below w.heap.size w wr)) (fun vi _ => l.length - (intOf vi).toNat)
   case atStart => exact ⟨0, by omega, rfl, ⟨by simp⟩, ⟨Below.refl _ _⟩⟩
   case round =>
    obtain ⟨j, hj, rfl, HN, HW⟩ := hrel
    by_cases hjl : j < l.length
    · obtain ⟨x, hx⟩ : ∃ x, l[j]? = some x := ⟨_, List.getElem?_eq_getElem hjl⟩
      obtain ⟨y, hy⟩ : ∃ y, m[j]? = some y := ⟨_, List.getElem?_eq_getElem (by rw [← HLM.out]; exact hjl)⟩
      obtain ⟨ad, rfl⟩ : ∃ ad, A = some ad := by obtain ⟨ad, e, _⟩ := HA.out.2.2 (by omega); exact ⟨ad, e⟩
      obtain ⟨bd, rfl⟩ : ∃ ad, B = some ad := by obtain ⟨ad, e, _⟩ := HB.out.2.2 (by rw [← HLM.out]; omega); exact ⟨ad, e⟩
      have HXC := aM (show ∀ W', Keep (fun _ => False) wr.drew W' → W'.cell? (ad.add j) = some (.int .i64 x) ∧ W'.cell? (bd.add j) = some (.int .i64 y) from fun W' h => by
       have hb : Below w.heap.size w W' := Keep.below_then HW.out.drew h HW.out.size (fun _ _ => id)
       exact ⟨pw_cell_below hb (C_cell HA.out hx), pw_cell_below hb (C_cell HB.out hy)⟩)
      have HX := aM hx
      have HY := aM hy
      clear hx hy
      by_cases hxy : x = y
      · subst hxy
        go_wp2_with fail
        refine rk_start (fun _ => False) (by kernel_rfl) (n := 9) (l := (bl 9 0)) (by kernel_rfl) (by kernel_rfl) ?_
        refine kt 0 (bl 9 1) rfl (fun w' hR => by go_simp; first | done | with_reducible rfl) rfl ?_
        try simp only [Act.put, pB, pC, pD]
        refine kt 1 (bl 9 3) rfl (fun w' hR => by go_simp; first | done | with_reducible rfl) rfl ?_
        try simp only [Act.put, pB, pC, pD]
        refine kt 2 (bl 9 7) rfl (fun w' hR => by go_simp; first | done | with_reducible rfl) rfl ?_
        try simp only [Act.put, pB, pC, pD]
        refine kt 3 (bl 9 15) rfl (fun w' hR => by have x0 := (HXC.out w' hR).1; go_simp; first | done | with_reducible rfl) rfl ?_
        try simp only [Act.put, pB, pC, pD]
        refine kt 4 (bl 9 31) rfl (fun w' hR => by go_simp; first | done | with_reducible rfl) rfl ?_
        try simp only [Act.put, pB, pC, pD]
        refine kt 5 (bl 9 63) rfl (fun w' hR => by go_simp; first | done | with_reducible rfl) rfl ?_
        try simp only [Act.put, pB, pC, pD]
        refine kt 6 (bl 9 127) rfl (fun w' hR => by go_simp; first | done | with_reducible rfl) rfl ?_
        try simp only [Act.put, pB, pC, pD]
        refine kt 7 (bl 9 255) rfl (fun w' hR => by have x0 := (HXC.out w' hR).2; go_simp; first | done | with_reducible rfl) rfl ?_
        try simp only [Act.put, pB, pC, pD]
        refine kt 8 (bl 9 511) rfl (fun w' hR => by go_simp; first | done | with_reducible rfl) rfl ?_
        try simp only [Act.put, pB, pC, pD]
        refine rk_done (by kernel_rfl) ?_
        go_wp2
        go_roundw
        case rel => exact ⟨j + 1, by omega, by go_num, ⟨by rw [List.take_add_one, List.take_add_one, HX.out, HY.out, HN.out]⟩, ⟨HW.out.drew⟩⟩
        case measure => simp [intOf]; omega
      · have hb : (x == y) = false := beq_eq_false_iff_ne.mpr hxy
        have hb2 : (x != y) = true := by simp only [bne, hb]; rfl
        have HD := aM (show decide (l = m) = false from decide_eq_false (fun e => hxy (by have h := HX.out; rw [e, HY.out] at h; injection h with h; exact h.symm)))
        clear hxy
        go_wp2_with fail
        refine rk_start (fun _ => False) (by kernel_rfl) (n := 9) (l := (bl 9 0)) (by kernel_rfl) (by kernel_rfl) ?_
        refine kt 0 (bl 9 1) rfl (fun w' hR => by go_simp; first | done | with_reducible rfl) rfl ?_
        try simp only [Act.put, pB, pC, pD]
        refine kt 1 (bl 9 3) rfl (fun w' hR => by go_simp; first | done | with_reducible rfl) rfl ?_
        try simp only [Act.put, pB, pC, pD]
        refine kt 2 (bl 9 7) rfl (fun w' hR => by go_simp; first | done | with_reducible rfl) rfl ?_
        try simp only [Act.put, pB, pC, pD]
        refine kt 3 (bl 9 15) rfl (fun w' hR => by have x0 := (HXC.out w' hR).1; go_simp; first | done | with_reducible rfl) rfl ?_
        try simp only [Act.put, pB, pC, pD]
        refine kt 4 (bl 9 31) rfl (fun w' hR => by go_simp; first | done | with_reducible rfl) rfl ?_
        try simp only [Act.put, pB, pC, pD]
        refine kt 5 (bl 9 63) rfl (fun w' hR => by go_simp; first | done | with_reducible rfl) rfl ?_
        try simp only [Act.put, pB, pC, pD]
        refine kt 6 (bl 9 127) rfl (fun w' hR => by go_simp; first | done | with_reducible rfl) rfl ?_
        try simp only [Act.put, pB, pC, pD]
        refine kt 7 (bl 9 255) rfl (fun w' hR => by have x0 := (HXC.out w' hR).2; go_simp; first | done | with_reducible rfl) rfl ?_
        try simp only [Act.put, pB, pC, pD]
        refine kt 8 (bl 9 511) rfl (fun w' hR => by go_simp; first | done | with_reducible rfl) rfl ?_
        try simp only [Act.put, pB, pC, pD]
        refine rk_done (by kernel_rfl) ?_
        go_wp2
        go_ret
        exact ⟨by rw [HD.out]; rfl, HW.out.drew⟩
    · obtain rfl : j = l.length := by omega
      have HD := aM (show decide (l = m) = true from decide_eq_true (by have h := HN.out; rw [List.take_length, HLM.out, List.take_length] at h; exact h))
      go_wp2
      go_ret
      exact ⟨by rw [HD.out]; rfl, HW.out⟩
 · have HD := aM (show decide (l = m) = false from decide_eq_false (fun e => hlm (by rw [e])))
   have hb : ((l.length : Int) == (m.length : Int)) = false := beq_eq_false_iff_ne.mpr (by omega)
   have hb2 : ((l.length : Int) != (m.length : Int)) = true := by simp only [bne, hb]; rfl
   go_enter Try.func117, Try.ntmps117
   go_wp2
   go_ret
   exact ⟨by rw [HD.out]; rfl, Below.refl _ _⟩
end Go.Proofs.Ytnckonglodmfeaa.Ik
namespace Go.Proofs.YtnckonglodmfeaaW.PrintWords
open Go.RowKit
section
variable {P : Program} {d : Nat} {xs ys : Array Value} {f : Field} {fs : List Field} {a b : Value} {r s : Bool} {w : World}
theorem eqf_last (hn : (f.name == "_") = false) (ha : (part f.type xs f.offset).run P w = .ok a w) (hb : (part f.type ys f.offset).run P w = .ok b w) (he : (Op.equalIn d f.type a b).run P w = .ok r w) : (Op.eqFields d xs ys [f]).run P w = .ok r w := by
 have hn' : f.name ≠ "_" := by simpa using hn
 simp only [Op.eqFields, if_pos hn', Sem.run_bind, ha, hb, he, Result.andThen_ok]
 cases r <;> simp
theorem eqf_cons (hn : (f.name == "_") = false) (ha : (part f.type xs f.offset).run P w = .ok a w) (hb : (part f.type ys f.offset).run P w = .ok b w) (he : (Op.equalIn d f.type a b).run P w = .ok r w) (hr : (Op.eqFields d xs ys fs).run P w = .ok s w) : (Op.eqFields d xs ys (f :: fs)).run P w = .ok (r && s) w := by
 have hn' : f.name ≠ "_" := by simpa using hn
 rw [Op.eqFields]
 simp only [if_pos hn', Sem.run_bind, ha, hb, he, Result.andThen_ok]
 cases r
 · simp
 · simpa using hr
theorem eqA_of {t : TypeId} {fs : Array Field} (hu : P.underlying t = some (.struct fs)) (hp : P.stoodInHeld t = false) (h : (Op.eqFields d xs ys fs.toList).run P w = .ok r w) : (Op.equalIn (d + 1) t (.agg xs) (.agg ys)).run P w = .ok r w := by
 have hf : P.fieldsOf t = fs := by simp [Program.fieldsOf, hu]
 rw [run_equalIn_struct (P := P) w d t xs ys (by rw [hf]; exact hu) hp, hf]
 exact h
end
end Go.Proofs.YtnckonglodmfeaaW.PrintWords
namespace Go.Proofs.Ytnckonglodmfeaa.Ik
open Go.RowKit Go.Proofs.YtnckonglodmfeaaW.PrintWords Go.Proofs.YtnckonglodmfeaaW.PrintLast Go.Proofs.YtnckonglodmfeaaW.PrintMore B R S Is
theorem run_equalE (d : Nat) (W : World) (k a t e k' a' t' e' : Int) : (Op.equalIn (d + 2) 82 (.agg #[.int .u8 k, .int .i64 a, .int .i64 t, .int .i64 e]) (.agg #[.int .u8 k', .int .i64 a', .int .i64 t', .int .i64 e'])).run Try.prog W = .ok (k == k' && (a == a' && (t == t' && (e == e')))) W := by
 refine eqA_of Try.underlying82 (by kernel_rfl) ?_
 refine eqf_cons (by rfl) (by go_simp; rfl) (by go_simp; rfl) (by go_simp) ?_
 refine eqf_cons (by rfl) (by go_simp; rfl) (by go_simp; rfl) (by go_simp) ?_
 refine eqf_cons (by rfl) (by go_simp; rfl) (by go_simp; rfl) (by go_simp) ?_
 exact eqf_last (by rfl) (by go_simp; rfl) (by go_simp; rfl) (by go_simp)
theorem run_neqE (W : World) (k a t e k' a' t' e' : Int) : (binOp .neq 82 (.agg #[.int .u8 k, .int .i64 a, .int .i64 t, .int .i64 e]) (.agg #[.int .u8 k', .int .i64 a', .int .i64 t', .int .i64 e'])).run Try.prog W = .ok (.bool (!(k == k' && (a == a' && (t == t' && (e == e')))))) W := by
 simp only [binOp]
 simp [Op.equal, Op.maxDepth, run_equalE 9998 W]
theorem keep2 {W : World} {N : Nat} (hN : N ≤ W.heap.size) (a b a' b' : Obj) : Keep (fun i => N ≤ i) ((W.alloc a).alloc b) ((W.alloc a').alloc b') := by
 refine ⟨rfl, rfl, rfl, by rw [World.size_alloc, World.size_alloc, World.size_alloc, World.size_alloc]; exact Nat.le_refl _, fun k hk hs => ?_⟩
 have hk' : k < W.heap.size := by omega
 rw [heap_alloc_old _ _ (by rw [World.size_alloc]; omega), heap_alloc_old _ _ hk', heap_alloc_old _ _ (by rw [World.size_alloc]; omega), heap_alloc_old _ _ hk']
theorem keep_drew2 {S : Nat → Prop} {a b : World} (h : Keep S a b) : Keep S a.drew b.drew := ⟨h.os, h.tape, h.output, h.size, h.block⟩
theorem keep_alloc {S : Nat → Prop} (W : World) (o : Obj) : Keep S W (W.alloc o) := (Keep.refl S W).alloc o
set_option maxHeartbeats 8000000 in
set_option maxRecDepth 100000 in
theorem same_blocks (l : List Blk) (n : Nat) (hn : l.length = n) (A B : Option Addr) (c e : Nat) (w : World) (hA : kBlk.C w A n l) (hB : kBlk.C w B n l) :
 Calls Try.prog 84 #[.slice A n c, .slice B n e] w fun r w' => r = .returned (.bool true) ∧ Below w.heap.size w w' := by
 have mixed : Try.prog.follows .mixedOrders = true := by kernel_rfl
 subst hn
 have HA := aM hA
 have HB := aM hB
 have hll := hA.2.1
 clear hA hB
 go_enter Try.func84, Try.ntmps84
 go_wp2_with fail
 go_loopw [5] (fun vi wr => ∃ j : Nat, j ≤ l.length ∧ vi = .int .i64 j ∧ Aside0 (Below w.heap.size w wr)) (fun vi _ => l.length - (intOf vi).toNat)
 case atStart => exact ⟨0, by omega, rfl, ⟨Below.refl _ _⟩⟩
 case round =>
  obtain ⟨wo, hwo⟩ : ∃ wo, wo = wr := ⟨_, rfl⟩
  subst hwo
  obtain ⟨j, hj, rfl, HZ⟩ := hrel
  by_cases hjl : j < l.length
  · obtain ⟨⟨is, k, a, tt, ee⟩, hx⟩ : ∃ x, l[j]? = some x := ⟨_, List.getElem?_eq_getElem hjl⟩
    obtain ⟨ad, A1, n1, rfl, b0, b1, b2, b3, b4, hn1, hC1⟩ := blk_cells HA.out hx
    obtain ⟨ad', A1', n1', rfl, c0, c1, c2, c3, c4, hn1', hC1'⟩ := blk_cells HB.out hx
    have hil0 := hC1.2.1
    have HC1 := aM hC1
    have HC1' := aM hC1'
    have HBX := aM (show ∀ W', Below w.heap.size w W' → (W'.cell? (ad.add (j * 5)) = some (.slice A1 is.length n1) ∧ W'.cell? ⟨(ad.add (j * 5)).block, (ad.add (j * 5)).off + 1, none⟩ = some (.int .u8 k) ∧ W'.cell? ⟨(ad.add (j * 5)).block, (ad.add (j * 5)).off + 2, none⟩ = some (.int .i64 a) ∧ W'.cell? ⟨(ad.add (j * 5)).block, (ad.add (j * 5)).off + 3, none⟩ = some (.int .i64 tt) ∧ W'.cell? ⟨(ad.add (j * 5)).block, (ad.add (j * 5)).off + 4, none⟩ = some (.int .i64 ee)) ∧
     W'.cell? (ad'.add (j * 5)) = some (.slice A1' is.length n1') ∧ W'.cell? ⟨(ad'.add (j * 5)).block, (ad'.add (j * 5)).off + 1, none⟩ = some (.int .u8 k) ∧ W'.cell? ⟨(ad'.add (j * 5)).block, (ad'.add (j * 5)).off + 2, none⟩ = some (.int .i64 a) ∧ W'.cell? ⟨(ad'.add (j * 5)).block, (ad'.add (j * 5)).off + 3, none⟩ = some (.int .i64 tt) ∧ W'.cell? ⟨(ad'.add (j * 5)).block, (ad'.add (j * 5)).off + 4, none⟩ = some (.int .i64 ee) from fun W' h =>
     ⟨⟨pw_cell_below h b0, pw_cell_below h b1, pw_cell_below h b2, pw_cell_below h b3, pw_cell_below h b4⟩, pw_cell_below h c0, pw_cell_below h c1, pw_cell_below h c2, pw_cell_below h c3, pw_cell_below h c4⟩)
    have HBK := aM (show ∀ W', Keep (fun _ => False) wo.drew W' → Below w.heap.size w W' from fun W' h => Keep.below_then HZ.out.drew h HZ.out.size (fun _ _ => id))
    have hne := fun W => run_neqE W k a tt ee k a tt ee
    have hbb : (!(k == k && (a == a && (tt == tt && (ee == ee))))) = false := by simp
    simp only [hbb] at hne
    clear hx hC1 hC1' b0 b1 b2 b3 b4 c0 c1 c2 c3 c4 hbb
    go_wp2_with fail
    refine rk_start (fun _ => False) (by kernel_rfl) (n := 26) (l := (bl 26 0)) (by kernel_rfl) (by kernel_rfl) ?_
    refine kt 0 (bl 26 1) rfl (fun w' hR => by go_simp; first | done | with_reducible rfl) rfl ?_
    try simp only [Act.put, pB, pC, pD]
    refine kt 1 (bl 26 3) rfl (fun w' hR => by go_simp; first | done | with_reducible rfl) rfl ?_
    try simp only [Act.put, pB, pC, pD]
    refine kt 2 (bl 26 7) rfl (fun w' hR => by go_simp; first | done | with_reducible rfl) rfl ?_
    try simp only [Act.put, pB, pC, pD]
    refine kt 3 (bl 26 15) rfl (fun w' hR => by go_simp; first | done | with_reducible rfl) rfl ?_
    try simp only [Act.put, pB, pC, pD]
    refine kt 4 (bl 26 31) rfl (fun w' hR => by obtain ⟨⟨x0, x1, x2, x3, x4⟩, y0, y1, y2, y3, y4⟩ := HBX.out w' (HBK.out w' hR); go_simp; first | done | with_reducible rfl) rfl ?_
    try simp only [Act.put, pB, pC, pD]
    refine kt 5 (bl 26 63) rfl (fun w' hR => by go_simp; first | done | with_reducible rfl) rfl ?_
    try simp only [Act.put, pB, pC, pD]
    refine kt 6 (bl 26 127) rfl (fun w' hR => by go_simp; first | done | with_reducible rfl) rfl ?_
    try simp only [Act.put, pB, pC, pD]
    refine kt 7 (bl 26 255) rfl (fun w' hR => by go_simp; first | done | with_reducible rfl) rfl ?_
    try simp only [Act.put, pB, pC, pD]
    refine kt 8 (bl 26 511) rfl (fun w' hR => by go_simp; first | done | with_reducible rfl) rfl ?_
    try simp only [Act.put, pB, pC, pD]
    refine kt 9 (bl 26 1023) rfl (fun w' hR => by obtain ⟨⟨x0, x1, x2, x3, x4⟩, y0, y1, y2, y3, y4⟩ := HBX.out w' (HBK.out w' hR); go_simp; first | done | with_reducible rfl) rfl ?_
    try simp only [Act.put, pB, pC, pD]
    refine kt 10 (bl 26 2047) rfl (fun w' hR => by have x0 := hne w'; go_simp; first | done | with_reducible rfl) rfl ?_
    try simp only [Act.put, pB, pC, pD]
    refine kt 11 (bl 26 4095) rfl (fun w' hR => by go_simp; first | done | with_reducible rfl) rfl ?_
    try simp only [Act.put, pB, pC, pD]
    refine kt 12 (bl 26 8191) rfl (fun w' hR => by go_simp; first | done | with_reducible rfl) rfl ?_
    try simp only [Act.put, pB, pC, pD]
    refine kt 13 (bl 26 16383) rfl (fun w' hR => by go_simp; first | done | with_reducible rfl) rfl ?_
    try simp only [Act.put, pB, pC, pD]
    refine kt 14 (bl 26 32767) rfl (fun w' hR => by go_simp; first | done | with_reducible rfl) rfl ?_
    try simp only [Act.put, pB, pC, pD]
    refine kt 15 (bl 26 65535) rfl (fun w' hR => by go_simp; first | done | with_reducible rfl) rfl ?_
    try simp only [Act.put, pB, pC, pD]
    refine kt 16 (bl 26 131071) rfl (fun w' hR => by obtain ⟨⟨x0, x1, x2, x3, x4⟩, y0, y1, y2, y3, y4⟩ := HBX.out w' (HBK.out w' hR); go_simp; first | done | with_reducible rfl) rfl ?_
    try simp only [Act.put, pB, pC, pD]
    refine kt 17 (bl 26 262143) rfl (fun w' hR => by go_simp; first | done | with_reducible rfl) rfl ?_
    try simp only [Act.put, pB, pC, pD]
    refine kt 18 (bl 26 524287) rfl (fun w' hR => by go_simp; first | done | with_reducible rfl) rfl ?_
    try simp only [Act.put, pB, pC, pD]
    refine kt 19 (bl 26 1048575) rfl (fun w' hR => by go_simp; first | done | with_reducible rfl) rfl ?_
    try simp only [Act.put, pB, pC, pD]
    refine kt 20 (bl 26 2097151) rfl (fun w' hR => by go_simp; first | done | with_reducible rfl) rfl ?_
    try simp only [Act.put, pB, pC, pD]
    refine kt 21 (bl 26 4194303) rfl (fun w' hR => by go_simp; first | done | with_reducible rfl) rfl ?_
    try simp only [Act.put, pB, pC, pD]
    refine kt 22 (bl 26 8388607) rfl (fun w' hR => by obtain ⟨⟨x0, x1, x2, x3, x4⟩, y0, y1, y2, y3, y4⟩ := HBX.out w' (HBK.out w' hR); go_simp; first | done | with_reducible rfl) rfl ?_
    try simp only [Act.put, pB, pC, pD]
    refine kt 23 (bl 26 16777215) rfl (fun w' hR => by go_simp; first | done | with_reducible rfl) rfl ?_
    try simp only [Act.put, pB, pC, pD]
    refine kt 24 (bl 26 33554431) rfl (fun w' hR => by go_simp; first | done | with_reducible rfl) rfl ?_
    try simp only [Act.put, pB, pC, pD]
    refine kt 25 (bl 26 67108863) rfl (fun w' hR => by go_simp; first | done | with_reducible rfl) rfl ?_
    try simp only [Act.put, pB, pC, pD]
    refine rk_done (by kernel_rfl) ?_
    clear HBK hne
    go_wp2_with fail
    go_loopw [6] (fun vi wi => ∃ i : Nat, i ≤ is.length ∧ vi = .int .i64 i ∧ Aside0 (Below w.heap.size w wi)) (fun vi _ => is.length - (intOf vi).toNat)
    case atStart => exact ⟨0, by omega, rfl, ⟨HZ.out.drew⟩⟩
    case round =>
     obtain ⟨wi, hwi⟩ : ∃ wi, wi = wr := ⟨_, rfl⟩
     subst hwi
     obtain ⟨i, hi, rfl, HWB⟩ := hrel
     obtain ⟨⟨x0, x1, x2, x3, x4⟩, y0, y1, y2, y3, y4⟩ := HBX.out wi HWB.out
     by_cases hil : i < is.length
     · obtain ⟨⟨k1, op, d, a1, bb, nn, args⟩, hq⟩ : ∃ q, is[i]? = some q := ⟨_, List.getElem?_eq_getElem hil⟩
       obtain ⟨ad2, A2, n2, rfl, i0, i1, i2, i3, i4, i5, i6, hn2, hC2⟩ := ins_cells HC1.out hq
       obtain ⟨ad3, A3, n3, rfl, j0, j1, j2, j3, j4, j5, j6, hn3, hC3⟩ := ins_cells HC1'.out hq
       have HQA := aM hC2
       have HQB := aM hC3
       have HIX := aM (show ∀ W', Keep (fun i => wi.heap.size ≤ i) wi.drew W' → (W'.cell? (ad.add (j * 5)) = some (.slice (some ad2) is.length n1) ∧ W'.cell? (ad'.add (j * 5)) = some (.slice (some ad3) is.length n1')) ∧
        (W'.cell? (ad2.add (i * 7)) = some (.int .u8 k1) ∧ W'.cell? ⟨(ad2.add (i * 7)).block, (ad2.add (i * 7)).off + 1, none⟩ = some (.int .u8 op) ∧ W'.cell? ⟨(ad2.add (i * 7)).block, (ad2.add (i * 7)).off + 2, none⟩ = some (.int .i64 d) ∧ W'.cell? ⟨(ad2.add (i * 7)).block, (ad2.add (i * 7)).off + 3, none⟩ = some (.int .i64 a1) ∧ W'.cell? ⟨(ad2.add (i * 7)).block, (ad2.add (i * 7)).off + 4, none⟩ = some (.int .i64 bb) ∧ W'.cell? ⟨(ad2.add (i * 7)).block, (ad2.add (i * 7)).off + 5, none⟩ = some (.int .i64 nn) ∧ W'.cell? ⟨(ad2.add (i * 7)).block, (ad2.add (i * 7)).off + 6, none⟩ = some (.slice A2 args.length n2)) ∧
        W'.cell? (ad3.add (i * 7)) = some (.int .u8 k1) ∧ W'.cell? ⟨(ad3.add (i * 7)).block, (ad3.add (i * 7)).off + 1, none⟩ = some (.int .u8 op) ∧ W'.cell? ⟨(ad3.add (i * 7)).block, (ad3.add (i * 7)).off + 2, none⟩ = some (.int .i64 d) ∧ W'.cell? ⟨(ad3.add (i * 7)).block, (ad3.add (i * 7)).off + 3, none⟩ = some (.int .i64 a1) ∧ W'.cell? ⟨(ad3.add (i * 7)).block, (ad3.add (i * 7)).off + 4, none⟩ = some (.int .i64 bb) ∧ W'.cell? ⟨(ad3.add (i * 7)).block, (ad3.add (i * 7)).off + 5, none⟩ = some (.int .i64 nn) ∧ W'.cell? ⟨(ad3.add (i * 7)).block, (ad3.add (i * 7)).off + 6, none⟩ = some (.slice A3 args.length n3) from fun W' h => by
        have hb : Below w.heap.size w W' := Keep.below_then HWB.out.drew h HWB.out.size (fun i h1 h2 => by have := HWB.out.size; omega)
        obtain ⟨⟨x0, x1, x2, x3, x4⟩, y0, y1, y2, y3, y4⟩ := HBX.out W' hb
        exact ⟨⟨x0, y0⟩, ⟨pw_cell_below hb i0, pw_cell_below hb i1, pw_cell_below hb i2, pw_cell_below hb i3, pw_cell_below hb i4, pw_cell_below hb i5, pw_cell_below hb i6⟩, pw_cell_below hb j0, pw_cell_below hb j1, pw_cell_below hb j2, pw_cell_below hb j3, pw_cell_below hb j4, pw_cell_below hb j5, pw_cell_below hb j6⟩)
       have HCUR := aM (Keep.refl (fun i => wi.heap.size ≤ i) wi.drew)
       clear hq hC2 hC3 i0 i1 i2 i3 i4 i5 i6 j0 j1 j2 j3 j4 j5 j6
       go_wp2_with fail
       clear x0 x1 x2 x3 x4 y0 y1 y2 y3 y4
       refine re_start [] (fun i => wi.heap.size ≤ i) (by kernel_rfl) (n := 20) (l := (bl 20 0)) (by kernel_rfl) (by kernel_rfl) ?_
       refine et 0 (bl 20 1) rfl (fun w' hR => by go_simp; first | done | with_reducible rfl) rfl ?_
       try simp only [Act.put, pB, pC, pD]
       refine et 1 (bl 20 3) rfl (fun w' hR => by go_simp; first | done | with_reducible rfl) rfl ?_
       try simp only [Act.put, pB, pC, pD]
       refine et 2 (bl 20 7) rfl (fun w' hR => by go_simp; first | done | with_reducible rfl) rfl ?_
       try simp only [Act.put, pB, pC, pD]
       refine et 3 (bl 20 15) rfl (fun w' hR => by go_simp; first | done | with_reducible rfl) rfl ?_
       try simp only [Act.put, pB, pC, pD]
       refine et 4 (bl 20 31) rfl (fun w' hR => by obtain ⟨⟨x0, y0⟩, -, -⟩ := HIX.out w' hR; go_simp; first | done | with_reducible rfl) rfl ?_
       try simp only [Act.put, pB, pC, pD]
       refine et 5 (bl 20 63) rfl (fun w' hR => by go_simp; first | done | with_reducible rfl) rfl ?_
       try simp only [Act.put, pB, pC, pD]
       refine et 6 (bl 20 127) rfl (fun w' hR => by go_simp; first | done | with_reducible rfl) rfl ?_
       try simp only [Act.put, pB, pC, pD]
       refine et 7 (bl 20 255) rfl (fun w' hR => by obtain ⟨-, ⟨x0, x1, x2, x3, x4, x5, x6⟩, -⟩ := HIX.out w' hR; go_simp; first | done | with_reducible rfl) rfl ?_
       try simp only [Act.put, pB, pC, pD]
       refine et 8 (bl 20 511) rfl (fun w' hR => by go_simp; first | done | with_reducible rfl) rfl ?_
       try simp only [Act.put, pB, pC, pD]
       refine et 9 (bl 20 1023) rfl (fun w' hR => by go_simp; first | done | with_reducible rfl) rfl ?_
       try simp only [Act.put, pB, pC, pD]
       refine et 10 (bl 20 2047) rfl (fun w' hR => by go_simp; first | done | with_reducible rfl) rfl ?_
       try simp only [Act.put, pB, pC, pD]
       refine et 11 (bl 20 4095) rfl (fun w' hR => by go_simp; first | done | with_reducible rfl) rfl ?_
       try simp only [Act.put, pB, pC, pD]
       refine et 12 (bl 20 8191) rfl (fun w' hR => by obtain ⟨⟨x0, y0⟩, -, -⟩ := HIX.out w' hR; go_simp; first | done | with_reducible rfl) rfl ?_
       try simp only [Act.put, pB, pC, pD]
       refine et 13 (bl 20 16383) rfl (fun w' hR => by go_simp; first | done | with_reducible rfl) rfl ?_
       try simp only [Act.put, pB, pC, pD]
       refine et 14 (bl 20 32767) rfl (fun w' hR => by go_simp; first | done | with_reducible rfl) rfl ?_
       try simp only [Act.put, pB, pC, pD]
       refine et 15 (bl 20 65535) rfl (fun w' hR => by obtain ⟨-, -, x0, x1, x2, x3, x4, x5, x6⟩ := HIX.out w' hR; go_simp; first | done | with_reducible rfl) rfl ?_
       try simp only [Act.put, pB, pC, pD]
       refine re_fork (fuel := 3) 16 17 rfl rfl (by kernel_rfl) (by kernel_rfl) (by kernel_rfl) (listed1 := (bl 20 131071)) (listed2 := (bl 20 196607)) (by kernel_rfl) (by kernel_rfl) (fun K' hK => ?_) (fun K' hK => ?_)
       · (go_wp2_with fail)
         refine hK.out _ _ (by (first | exact keep_alloc _ _ | exact keep_drew2 (keep_alloc _ _))) ?_
         clear hK K'
         try simp only [Act.put, pB, pC, pD]
         refine re_step (fuel := 2) 17 rfl (by kernel_rfl) (listed' := (bl 20 262143)) (by kernel_rfl) (by kernel_rfl) (fun K' hK => ?_)
         (go_wp2_with fail)
         refine hK.out _ _ (by (first | exact keep_alloc _ _ | exact keep_drew2 (keep_alloc _ _))) ?_
         clear hK K'
         try simp only [Act.put, pB, pC, pD]
         refine re_step (fuel := 1) 18 rfl (by kernel_rfl) (listed' := (bl 20 524287)) (by kernel_rfl) (by kernel_rfl) (fun K' hK => ?_)
         (go_wp2_with fail)
         refine hK.out _ _ (by (first | exact keep2 (Nat.le_refl _) _ _ _ _ | exact keep_drew2 (keep2 (Nat.le_refl _) _ _ _ _) | (refine keep_drew2 (keep2 ?_ _ _ _ _); exact Nat.le_refl _))) ?_
         clear hK K'
         try simp only [Act.put, pB, pC, pD]
         refine re_step (fuel := 0) 19 rfl (by kernel_rfl) (listed' := (bl 20 1048575)) (by kernel_rfl) (by kernel_rfl) (fun K' hK => ?_)
         (go_wp2_with fail)
         refine hK.out _ _ (by (first | exact keep2 (Nat.le_refl _) _ _ _ _ | exact keep_drew2 (keep2 (Nat.le_refl _) _ _ _ _) | (refine keep_drew2 (keep2 ?_ _ _ _ _); exact Nat.le_refl _))) ?_
         clear hK K'
         try simp only [Act.put, pB, pC, pD]
         refine re_done (by kernel_rfl) ?_
         go_wp2_with (go_at_call 117; refine (same_ints args args A2 A3 n2 n3 _ (Kd.C_below HQA.out (by (exact ((HWB.out.alloc HWB.out.size _).alloc (by rw [World.size_alloc]; have := HWB.out.size; omega) _).drew))) (Kd.C_below HQB.out (by (exact ((HWB.out.alloc HWB.out.size _).alloc (by rw [World.size_alloc]; have := HWB.out.size; omega) _).drew)))).mono ?_; rintro _ w7 ⟨rfl, hb⟩; have HW7 : Aside0 (Below w.heap.size w w7) := ⟨Below.trans (by (exact ((HWB.out.alloc HWB.out.size _).alloc (by rw [World.size_alloc]; have := HWB.out.size; omega) _).drew)) (Below.mono hb (Below.size (by (exact ((HWB.out.alloc HWB.out.size _).alloc (by rw [World.size_alloc]; have := HWB.out.size; omega) _).drew))))⟩; clear hb)
         go_roundw
         (case rel => exact ⟨i + 1, by omega, by go_num, HW7⟩)
         (case measure => simp [intOf]; omega)
       · (go_wp2_with fail)
         refine hK.out _ _ (by (first | exact keep_alloc _ _ | exact keep_drew2 (keep_alloc _ _))) ?_
         clear hK K'
         try simp only [Act.put, pB, pC, pD]
         refine re_step (fuel := 2) 16 rfl (by kernel_rfl) (listed' := (bl 20 262143)) (by kernel_rfl) (by kernel_rfl) (fun K' hK => ?_)
         (go_wp2_with fail)
         refine hK.out _ _ (by (first | exact keep_alloc _ _ | exact keep_drew2 (keep_alloc _ _))) ?_
         clear hK K'
         try simp only [Act.put, pB, pC, pD]
         refine re_step (fuel := 1) 18 rfl (by kernel_rfl) (listed' := (bl 20 524287)) (by kernel_rfl) (by kernel_rfl) (fun K' hK => ?_)
         (go_wp2_with fail)
         refine hK.out _ _ (by (first | exact keep2 (Nat.le_refl _) _ _ _ _ | exact keep_drew2 (keep2 (Nat.le_refl _) _ _ _ _) | (refine keep_drew2 (keep2 ?_ _ _ _ _); exact Nat.le_refl _))) ?_
         clear hK K'
         try simp only [Act.put, pB, pC, pD]
         refine re_step (fuel := 0) 19 rfl (by kernel_rfl) (listed' := (bl 20 1048575)) (by kernel_rfl) (by kernel_rfl) (fun K' hK => ?_)
         (go_wp2_with fail)
         refine hK.out _ _ (by (first | exact keep2 (Nat.le_refl _) _ _ _ _ | exact keep_drew2 (keep2 (Nat.le_refl _) _ _ _ _) | (refine keep_drew2 (keep2 ?_ _ _ _ _); exact Nat.le_refl _))) ?_
         clear hK K'
         try simp only [Act.put, pB, pC, pD]
         refine re_done (by kernel_rfl) ?_
         go_wp2_with (go_at_call 117; refine (same_ints args args A2 A3 n2 n3 _ (Kd.C_below HQA.out (by (exact ((HWB.out.alloc HWB.out.size _).alloc (by rw [World.size_alloc]; have := HWB.out.size; omega) _).drew))) (Kd.C_below HQB.out (by (exact ((HWB.out.alloc HWB.out.size _).alloc (by rw [World.size_alloc]; have := HWB.out.size; omega) _).drew)))).mono ?_; rintro _ w7 ⟨rfl, hb⟩; have HW7 : Aside0 (Below w.heap.size w w7) := ⟨Below.trans (by (exact ((HWB.out.alloc HWB.out.size _).alloc (by rw [World.size_alloc]; have := HWB.out.size; omega) _).drew)) (Below.mono hb (Below.size (by (exact ((HWB.out.alloc HWB.out.size _).alloc (by rw [World.size_alloc]; have := HWB.out.size; omega) _).drew))))⟩; clear hb)
         go_roundw
         (case rel => exact ⟨i + 1, by omega, by go_num, HW7⟩)
         (case measure => simp [intOf]; omega)
     · obtain rfl : i = is.length := by omega
       go_wp2
       go_roundw
       case rel => exact ⟨j + 1, by omega, by go_num, HWB⟩
       case measure => simp [intOf]; omega
  · obtain rfl : j = l.length := by omega
    go_wp2
    go_ret
    exact ⟨rfl, HZ.out⟩
set_option maxHeartbeats 4000000 in
set_option maxRecDepth 100000 in
theorem same_funcs (p v : Int) (l : List Blk) (n : Nat) (hn : l.length = n) (A B : Option Addr) (c e : Nat) (w : World) (hA : kBlk.C w A n l) (hB : kBlk.C w B n l) :
 Calls Try.prog 34 #[.agg #[.int .i64 p, .int .i64 v, .slice A n c], .agg #[.int .i64 p, .int .i64 v, .slice B n e]] w fun r w' => r = .returned (.bool true) ∧ Below w.heap.size w w' := by
 have mixed : Try.prog.follows .mixedOrders = true := by kernel_rfl
 have HA := aM hA
 have HB := aM hB
 have HN := aM hn
 clear hA hB hn
 have HWF := aM (show Below w.heap.size w ((w.alloc (.cells #[.int .i64 p, .int .i64 v, .slice A n c] 25)).alloc (.cells #[.int .i64 p, .int .i64 v, .slice B n e] 25)) from ((Below.refl _ _).alloc (Nat.le_refl _) _).alloc (by rw [World.size_alloc]; omega) _)
 go_enter Try.func34, Try.ntmps34
 go_wp2_with (go_at_call 84; refine (same_blocks l n HN.out A B c e _ (Kd.C_below HA.out HWF.out) (Kd.C_below HB.out HWF.out)).mono ?_; rintro _ w7 ⟨rfl, hb⟩; have HW7 := aM (HWF.out.trans (hb.mono HWF.out.size)); clear hb)
 go_ret
 exact ⟨rfl, HW7.out⟩
end Go.Proofs.Ytnckonglodmfeaa.Ik
namespace Go.Proofs.Ytnckonglodmfeaa.Ik
open Ls Lc Go.RowKit Go.Proofs.YtnckonglodmfeaaW.PrintWords Go.Proofs.YtnckonglodmfeaaW.PrintLast Go.Proofs.YtnckonglodmfeaaW.PrintMore B R S Is Js Gs Gc
abbrev awB : Blk := ([], 3, 0, 0, 0)
theorem aw_body : askB (3, 7, 4, 0, 1, [awB]) = [3, 7, 4, 0, 1, 1, 0, 3, 0] := by
 have f : ∀ x : Int, 0 ≤ x → x < 128 → fieldL x = [x] := fun x h0 h1 => by
  rw [fieldL, wrU64 x h0 (by omega), putl_lt (by omega)]
  rw [Int.toNat_of_nonneg h0]
 have e7 : putl 7 = [7] := by rw [putl_lt (by decide)]; rfl
 simp [askB, funcL, blksL, blkL, endL, fieldsL, f, e7]
theorem aw_read : readAsk (askL (3, 7, 4, 0, 1, [awB])) = ((3, 7, 4, 0, 1, [awB]), 0) := by
 have ht : takeL (askL (3, 7, 4, 0, 1, [awB])) = (2, [3, 7, 4, 0, 1, 1, 0, 3, 0], ((askL (3, 7, 4, 0, 1, [awB])).length : Int), 0) := by
  have h := take_lay (k := 2) (b := askB (3, 7, 4, 0, 1, [awB])) (rest := []) (by rw [aw_body]; decide)
  rw [List.append_nil] at h
  rw [← aw_body]
  exact h
 have ho : openL 2 (askL (3, 7, 4, 0, 1, [awB])) = ([3, 7, 4, 0, 1, 1, 0, 3, 0], 0) := by
  rw [open_eq rfl ht]
  simp
 have h1 : sBelow 16 ([3, 7, 4, 0, 1, 1, 0, 3, 0], 0) = (3, ([7, 4, 0, 1, 1, 0, 3, 0], 0)) := by kernel_rfl
 have h2 : num [7, 4, 0, 1, 1, 0, 3, 0] 0 = (7, ([4, 0, 1, 1, 0, 3, 0], 0)) := by kernel_rfl
 have h3 : sBelow 9 ([4, 0, 1, 1, 0, 3, 0], 0) = (4, ([0, 1, 1, 0, 3, 0], 0)) := by kernel_rfl
 have hf : sFun [0, 1, 1, 0, 3, 0] = ((0, 1, [awB]), 0) := by kernel_rfl
 rw [readAsk_eq ho h1 h2 h3 hf]
 rfl
theorem aw_C (w : World) (e : Nat) : kBlk.C (w.alloc (.cells #[.slice none 0 0, .int .u8 3, .int .i64 0, .int .i64 0, .int .i64 0] e)) (some ⟨w.heap.size, 0, none⟩) 1 [awB] := by
 refine ⟨rfl, by decide, fun _ => ⟨_, rfl, fun j p hj => ?_⟩⟩
 obtain ⟨rfl, rfl⟩ : j = 0 ∧ p = awB := by
  rcases j with _ | j
  · exact ⟨rfl, by simpa using hj.symm⟩
  · simp at hj
 refine ⟨[.slice none 0 0, .int .u8 3, .int .i64 0, .int .i64 0, .int .i64 0], rfl, ⟨[.slice none 0 0], _, rfl, ⟨none, 0, rfl, Nat.le_refl _, ⟨rfl, by decide, fun h => absurd h (by decide)⟩⟩, [.int .u8 3], _, rfl, rfl, [.int .i64 0], _, rfl, rfl, [.int .i64 0], _, rfl, rfl, rfl⟩, fun i u hu => ?_⟩
 have hadd : (⟨w.heap.size, 0, none⟩ : Addr).add (0 * kBlk.sz + i) = ⟨w.heap.size, i, none⟩ := by unfold Addr.add; split <;> simp_all
 rw [hadd]
 exact cell_at (heap_alloc_new _ _) i u (by simpa using hu)
theorem aw_R : ∀ b ∈ [awB], BlkR b := by
 intro b hb
 rw [List.mem_singleton] at hb
 subst hb
 refine ⟨(fun i hi => by cases hi), ?_⟩
 simp only [EndR, U8, I64]
 decide
theorem aw_err : askErr (3, 7, 4, 0, 1, [awB]) = 0 := by kernel_rfl
set_option maxHeartbeats 4000000 in
set_option maxRecDepth 100000 in
theorem awake_asks (w : World) : Calls Try.prog 10 #[] w fun e w' => e = .returned (.bool true) ∧ Below w.heap.size w w' := by
 have mixed : Try.prog.follows .mixedOrders = true := by kernel_rfl
 obtain ⟨fl, hfl⟩ : ∃ fl, askL (3, 7, 4, 0, 1, [awB]) = fl := ⟨_, rfl⟩
 obtain ⟨nf, hnf⟩ : ∃ nf, fl.length = nf := ⟨_, rfl⟩
 have hnl : nf ≤ 20 := by
  rw [← hnf, ← hfl, askL, lay_len, aw_body]
  have := (putl_three (n := 9) (by decide)).2
  rw [show ([3, 7, 4, 0, 1, 1, 0, 3, 0] : List Int).length = 9 from rfl]
  omega
 have hrd := aw_read
 rw [hfl] at hrd
 have HFL := aM hfl
 have HNF := aM hnf
 have HRD := aM hrd
 have HBY := aM (show By fl from by rw [← hfl]; exact lay_by (by decide) (ask_byB _))
 have hs1 : (w.alloc (.cells #[.slice none 0 0, .int .u8 3, .int .i64 0, .int .i64 0, .int .i64 0] 84)).heap.size = w.heap.size + 1 := World.size_alloc _ _
 have hs2 : (World.alloc (w.alloc (.cells #[.slice none 0 0, .int .u8 3, .int .i64 0, .int .i64 0, .int .i64 0] 84)) (.cells #[.int .i64 0, .int .i64 1, .slice (some ⟨w.heap.size, 0, none⟩) 1 1] 25)).heap.size = w.heap.size + 2 := by rw [World.size_alloc, hs1]
 have HS2 := aM hs2
 have HC := aM (show kBlk.C (World.alloc (w.alloc (.cells #[.slice none 0 0, .int .u8 3, .int .i64 0, .int .i64 0, .int .i64 0] 84)) (.cells #[.int .i64 0, .int .i64 1, .slice (some ⟨w.heap.size, 0, none⟩) 1 1] 25)) (some ⟨w.heap.size, 0, none⟩) 1 [awB] from Kd.C_alloc (aw_C w 84) _)
 have HW := aM (show Below w.heap.size w (World.alloc (w.alloc (.cells #[.slice none 0 0, .int .u8 3, .int .i64 0, .int .i64 0, .int .i64 0] 84)) (.cells #[.int .i64 0, .int .i64 1, .slice (some ⟨w.heap.size, 0, none⟩) 1 1] 25)) from ((Below.refl _ _).alloc (Nat.le_refl _) _).alloc (by rw [hs1]; omega) _)
 have HX := aM (show ∀ W', Below (w.heap.size + 2) (World.alloc (w.alloc (.cells #[.slice none 0 0, .int .u8 3, .int .i64 0, .int .i64 0, .int .i64 0] 84)) (.cells #[.int .i64 0, .int .i64 1, .slice (some ⟨w.heap.size, 0, none⟩) 1 1] 25)) W' → W'.cell? ⟨w.heap.size + 1, 0, none⟩ = some (.int .i64 0) ∧ W'.cell? ⟨w.heap.size + 1, 1, none⟩ = some (.int .i64 1) ∧ W'.cell? ⟨w.heap.size + 1, 2, none⟩ = some (.slice (some ⟨w.heap.size, 0, none⟩) 1 1) from fun W' h => by
  obtain ⟨g, g'⟩ := two_cells h
  exact ⟨cell_at g' 0 _ rfl, cell_at g' 1 _ rfl, cell_at g' 2 _ rfl⟩)
 clear hfl hnf hrd hs1 hs2
 go_enter Try.func10, Try.ntmps10
 go_upto_region 3 with (go_at_call 13; refine (putask_calls 3 7 4 0 1 [awB] (some ⟨w.heap.size, 0, none⟩) 1 _ (by decide) (by decide) HC.out aw_R (by decide)).mono ?_; rintro _ w3 ⟨hr, hb⟩; obtain ⟨A3, c3, rfl, hl3, hC3⟩ := hr.2 aw_err; rw [HFL.out, HNF.out] at hl3 hC3 ⊢; have HC3 := aM hC3; have HB3 := aM (show Below (w.heap.size + 2) (World.alloc (w.alloc (.cells #[.slice none 0 0, .int .u8 3, .int .i64 0, .int .i64 0, .int .i64 0] 84)) (.cells #[.int .i64 0, .int .i64 1, .slice (some ⟨w.heap.size, 0, none⟩) 1 1] 25)) w3 from hb.mono (by rw [HS2.out]; exact Nat.le_refl _)); clear hr hb hC3)
 go_upto_region 4 with (go_at_call 18; refine (takeask_calls A3 c3 fl nf HNF.out _ HC3.out hl3 HBY.out (by omega)).mono ?_; rintro _ w4 ⟨hr, hb⟩; rw [HRD.out] at hr; obtain ⟨j, n, r, p, v, vb, bs, rfl, hR, hx⟩ := hr; simp only [Prod.mk.injEq] at hx; obtain ⟨rfl, rfl, rfl, rfl, rfl, rfl⟩ := hx; obtain ⟨Ab, cb, rfl, -, hCb⟩ := Kd.R_reads hR; rw [show [awB].length = 1 from rfl] at hCb ⊢; have HCb := aM hCb; have HB4 := aM (HB3.out.trans (hb.mono (by have := HB3.out.size; rw [HS2.out] at this; exact this))); clear hR hCb hb)
 have hz4 : w.heap.size + 2 ≤ w4.heap.size := by have := HB4.out.size; rw [HS2.out] at this; exact this
 have HB5 := aM (HB4.out.alloc hz4 (.cells #[.int .i64 3, .int .u64 7, .int .i64 4, .int .i64 0, .int .i64 1, .slice Ab 1 cb] 27))
 obtain ⟨y0, y1, y2⟩ := HX.out _ HB5.out
 go_wp2_with (go_at_call 34; refine (same_funcs 0 1 [awB] 1 rfl Ab (some ⟨w.heap.size, 0, none⟩) cb 1 _ (Kd.C_alloc HCb.out _) (Kd.C_alloc (Kd.C_below HC.out (HB4.out.mono (by rw [HS2.out]; exact Nat.le_refl _))) _)).mono ?_; rintro _ w7 ⟨rfl, hb⟩; have HW7 := aM ((HW.out.trans (HB5.out.mono (by omega))).trans (hb.mono (HW.out.trans (HB5.out.mono (by omega))).size)); clear hb)
 go_ret
 exact ⟨rfl, HW7.out⟩
end Go.Proofs.Ytnckonglodmfeaa.Ik
namespace Go.Proofs.Ytnckonglodmfeaa.Ik
open Ls Lc Go.RowKit Go.Proofs.YtnckonglodmfeaaW.PrintWords Go.Proofs.YtnckonglodmfeaaW.PrintLast Go.Proofs.YtnckonglodmfeaaW.PrintMore B R S Is
theorem size_set' (W : World) (p : Addr) (u : Value) : (W.setCell p u).heap.size = W.heap.size := by simp [World.setCell]
def Mkr (w0 w : World) (g : Nat) : Prop := ∃ (A : Option Addr) (c : Nat) (l : List Int), w.heap[g]? = some (.cells #[.slice A l.length c] 98 (0, 0)) ∧ kU8.C w0 A l.length l ∧ l.length ≤ c ∧ By l
theorem Mkr.keep {w0 w w' : World} {g : Nat} {S : Nat → Prop} (h : Mkr w0 w g) (hk : Keep S w w') (hg : ¬ S g) : Mkr w0 w' g := by
 obtain ⟨A, c, l, h1, h2⟩ := h
 exact ⟨A, c, l, (hk.block g (blk_lt h1) hg).trans h1, h2⟩
theorem Mkr.lt {w0 w : World} {g : Nat} (h : Mkr w0 w g) : g < w.heap.size := by
 obtain ⟨A, c, l, h1, -⟩ := h
 exact blk_lt h1
set_option maxHeartbeats 1000000 in
set_option maxRecDepth 100000 in
theorem next_calls (w0 w : World) (g : Nat) (n : Int) (h : Mkr w0 w g) (hb : Below w0.heap.size w0 w) (hg : w0.heap.size ≤ g) (hn : 1 ≤ n) (hn2 : n ≤ 1000000) :
 Calls Try.prog 35 #[.pointer (some ⟨g, 0, none⟩), .int .i64 n] w fun e w' => ∃ x, e = .returned (.int .i64 x) ∧ 0 ≤ x ∧ x < n ∧ Mkr w0 w' g ∧ Keep (· = g) w w' ∧ w'.heap.size = w.heap.size := by
 have mixed : Try.prog.follows .mixedOrders = true := by kernel_rfl
 obtain ⟨A, c, l, h1, h2, h3, h4⟩ := h
 have q0 := cell_at h1 0 _ rfl
 have z0 := blk_frozen h1 0
 have HH := aM h1
 have HC := aM (Kd.C_below h2 hb)
 have HC0 := aM h2
 have HL := aM h3
 have HY := aM h4
 cases l with
 | nil =>
  clear h1 h2 h3 h4
  go_enter Try.func35, Try.ntmps35
  go_wp2
  go_ret
  exact ⟨0, rfl, by omega, by omega, ⟨A, c, [], HH.out, HC0.out, HL.out, HY.out⟩, Keep.refl _ _, rfl⟩
 | cons b l =>
  obtain ⟨ad, rfl⟩ := C_some h2 (by simp)
  have hc := C_cell HC.out (j := 0) (x := b) rfl
  have h0 : ad.add 0 = ad := by
   obtain ⟨bl, off, f⟩ := ad
   unfold Addr.add
   split <;> simp_all
  rw [h0] at hc
  have hb0 := h4 b (by simp)
  clear h0
  have HN := aM (show 0 ≤ b.tmod n ∧ b.tmod n < n from tmod_range hb0.1 (by omega))
  have hnz : (n = 0) = False := by simp; omega
  have hw : IntKind.i64.wrap b = b := wrI64 b (by omega) (by omega)
  obtain ⟨i0, hi0, -, hsz, -⟩ := info_ex Lc.infoU8
  obtain ⟨A', hrun, hCd, -, hlen⟩ := sl_from (d := kU8) (P := Try.prog) 28 5 .i64 Try.underlying28 hi0 (some ad) c (b :: l) hsz 1 (by decide) (by simp; omega) h3
  have hdr : ((b :: l).drop (1 : Int).toNat) = l := rfl
  rw [hdr] at hrun hCd hlen
  have HCD := aM (hCd w0 h2)
  have HLN := aM hlen
  have hll : ((b :: l).length : Int) ≠ 0 := by simp only [List.length_cons]; omega
  have hlb : (((b :: l).length : Int) == 0) = false := beq_eq_false_iff_ne.mpr hll
  have hlp : (0 : Int) < ((b :: l).length : Int) := by simp only [List.length_cons]; omega
  obtain ⟨N, hN⟩ : ∃ N, (b :: l).length = N := ⟨_, rfl⟩
  rw [hN] at hrun q0 hlb hlp
  have hlp' : 0 < N := by omega
  clear h1 h2 h3 h4 hCd hll hdr
  go_enter Try.func35, Try.ntmps35
  go_wp2
  go_ret
  have HN2 := HN.out
  rw [Int.tmod_eq_emod_of_nonneg hb0.1] at HN2
  exact ⟨b % n, rfl, HN2.1, HN2.2, ⟨A', c - 1, l, heap_setCell_same w g 0 _ _ _ HH.out, HCD.out, HLN.out, fun y hy => HY.out y (List.mem_cons_of_mem _ hy)⟩, (Keep.refl (· = g) w).setCell ⟨g, 0, none⟩ _ (fun _ => rfl), size_set' _ _ _⟩
--INS
structure MR (w0 wi W : World) (g gr : Nat) : Prop where
 mkr : Mkr w0 W g
 res : W.heap[gr]? = some (.cells #[.int .u8 0, .int .u8 0, .int .i64 0, .int .i64 0, .int .i64 0, .int .i64 0, .slice none 0 0] 92 (0, 0))
 keep : Keep (· = g) wi W
 b0 : Below w0.heap.size w0 W
 hg0 : w0.heap.size ≤ g
 hg : g < gr
 hgr : wi.heap.size = gr
theorem MR.step {w0 wi W W' : World} {g gr : Nat} (h : MR w0 wi W g gr) (hk : Keep (fun i => i = g ∨ gr < i) W W') (hm : Mkr w0 W' g) : MR w0 wi W' g gr := by
 have h1 := h.hg0
 have h2 := h.hg
 have h3 := h.hgr
 exact ⟨hm, (hk.block gr (blk_lt h.res) (fun e => by omega)).trans h.res, h.keep.then hk (fun i hi e => by omega), h.b0.trans (hk.below h.b0.size (fun i hi e => by omega)), h1, h2, h3⟩
theorem MR.rest {w0 wi W : World} {g gr : Nat} (h : MR w0 wi W g gr) : (W.cell? ⟨gr, 0, none⟩ = some (.int .u8 0) ∧ W.cell? ⟨gr, 1, none⟩ = some (.int .u8 0) ∧ W.cell? ⟨gr, 2, none⟩ = some (.int .i64 0) ∧ W.cell? ⟨gr, 3, none⟩ = some (.int .i64 0) ∧ W.cell? ⟨gr, 4, none⟩ = some (.int .i64 0) ∧ W.cell? ⟨gr, 5, none⟩ = some (.int .i64 0) ∧ W.cell? ⟨gr, 6, none⟩ = some (.slice none 0 0)) ∧ W.frozen? ⟨gr, 0, none⟩ = false ∧ W.frozen? ⟨gr, 1, none⟩ = false ∧ W.frozen? ⟨gr, 2, none⟩ = false ∧ W.frozen? ⟨gr, 3, none⟩ = false ∧ W.frozen? ⟨gr, 4, none⟩ = false ∧ W.frozen? ⟨gr, 5, none⟩ = false ∧ W.frozen? ⟨gr, 6, none⟩ = false :=
 ⟨⟨cell_at h.res 0 _ rfl, cell_at h.res 1 _ rfl, cell_at h.res 2 _ rfl, cell_at h.res 3 _ rfl, cell_at h.res 4 _ rfl, cell_at h.res 5 _ rfl, cell_at h.res 6 _ rfl⟩, blk_frozen h.res 0, blk_frozen h.res 1, blk_frozen h.res 2, blk_frozen h.res 3, blk_frozen h.res 4, blk_frozen h.res 5, blk_frozen h.res 6⟩
theorem mr_next {w0 wi W : World} {g gr : Nat} (h : MR w0 wi W g gr) (n : Int) (hn : 1 ≤ n) (hn2 : n ≤ 1000000) :
 Calls Try.prog 35 #[.pointer (some ⟨g, 0, none⟩), .int .i64 n] W fun e w' => ∃ x, e = .returned (.int .i64 x) ∧ 0 ≤ x ∧ x < n ∧ MR w0 wi w' g gr ∧ Keep (· = g) W w' := by
 refine (next_calls w0 W g n h.mkr h.b0 h.hg0 hn hn2).mono ?_
 rintro e w' ⟨x, h1, h2, h3, h4, h5, -⟩
 exact ⟨x, h1, h2, h3, h.step (h5.mono (fun i _ e => .inl e)) h4, h5⟩
structure MB (w0 wi W : World) (g gr gb : Nat) (F : Array Value) : Prop where
 m : MR w0 wi W g gr
 bx : W.heap[gb]? = some (.cells F 92 (0, 0))
 hgb : gr < gb
theorem MB.move {w0 wi W W' : World} {g gr gb : Nat} {F : Array Value} (h : MB w0 wi W g gr gb F) (hk : Keep (fun i => i = g ∨ gb < i) W.drew W') (hm : Mkr w0 W' g) : MB w0 wi W' g gr gb F := by
 have h1 := h.m.hg
 have h2 := h.hgb
 have hk' : Keep (fun i => i = g ∨ gb < i) W W' := (Keep.refl _ W).drew.trans hk
 exact ⟨h.m.step (hk'.mono (fun i _ e => e.imp id (fun e => by omega))) hm, (hk'.block gb (blk_lt h.bx) (fun e => by omega)).trans h.bx, h2⟩
theorem MB.set {w0 wi W : World} {g gr gb : Nat} {F : Array Value} (h : MB w0 wi W g gr gb F) (j : Nat) (x : Value) : MB w0 wi (W.setCell ⟨gb, j, none⟩ x) g gr gb (F.setIfInBounds j x) := by
 have h1 := h.m.hg
 have h2 := h.hgb
 have hk : Keep (· = gb) W (W.setCell ⟨gb, j, none⟩ x) := (Keep.refl _ _).setCell ⟨gb, j, none⟩ x (fun _ => rfl)
 exact ⟨h.m.step (hk.mono (fun i _ e => by have e : i = gb := e; omega)) (h.m.mkr.keep hk (by omega)), heap_setCell_same W gb j F _ _ h.bx, h2⟩
theorem mb_next {w0 wi W : World} {g gr gb : Nat} {F : Array Value} (h : MB w0 wi W g gr gb F) (n : Int) (hn : 1 ≤ n) (hn2 : n ≤ 1000000) :
 Calls Try.prog 35 #[.pointer (some ⟨g, 0, none⟩), .int .i64 n] W fun e w' => ∃ x, e = .returned (.int .i64 x) ∧ 0 ≤ x ∧ x < n ∧ MB w0 wi w' g gr gb F ∧ Keep (· = g) W w' := by
 refine (mr_next h.m n hn hn2).mono ?_
 rintro e w' ⟨x, h1, h2, h3, h4, h5⟩
 exact ⟨x, h1, h2, h3, ⟨h4, (h5.block gb (blk_lt h.bx) (fun e => by have e : gb = g := e; have := h.m.hg; have := h.hgb; omega)).trans h.bx, h.hgb⟩, h5⟩
theorem MR.out {w0 wi W : World} {g gr : Nat} (h : MR w0 wi W g gr) (x0 x1 x2 x3 x4 x5 x6 : Value) (W' : World) (e : W' = (((((((W.setCell ⟨gr, 0, none⟩ x0).setCell ⟨gr, 1, none⟩ x1).setCell ⟨gr, 2, none⟩ x2).setCell ⟨gr, 3, none⟩ x3).setCell ⟨gr, 4, none⟩ x4).setCell ⟨gr, 5, none⟩ x5).setCell ⟨gr, 6, none⟩ x6)) :
 Mkr w0 W' g ∧ Keep (· = g) wi W' ∧ Keep (· = gr) W W' := by
 have h1 := h.hg
 have h3 := h.hgr
 have hk := put7_far (W := W) (g := gr) x0 x1 x2 x3 x4 x5 x6
 subst e
 exact ⟨h.mkr.keep hk (by omega), h.keep.then hk (fun i hi e => by have e : i = gr := e; omega), hk⟩
def GoodI (v : Int) (i : Ins) : Prop := insErr v (-1) i = 0 ∧ InsR i ∧ i.2.2.2.2.2.2.length ≤ 3
theorem good_of {v k op d a b n : Int} {args : List Int} (hk : okK k op) (hp : plainB (k, op, d, a, b, n, args) = true) (hl : args.length ≤ 3) (ha : ∀ x ∈ allL (k, op, d, a, b, n, args), 0 ≤ x ∧ x < v) : insErr v (-1) (k, op, d, a, b, n, args) = 0 := by
 rw [ins_regs hk hp (by omega), if_neg]
 rw [Bool.not_eq_true, List.any_eq_false]
 intro x hx
 have := ha x hx
 simp only [outB, decide_eq_true_eq]
 omega
theorem good1 {v d n : Int} (h : 0 ≤ d ∧ d < v) (hv : v ≤ 512) (hn : I64 n) : GoodI v (1, 0, d, 0, 0, n, []) := by
 refine ⟨good_of (by simp [okK] <;> omega) (by simp [plainB]) (by simp) (fun x hx => ?_), ⟨⟨by decide, by decide⟩, ⟨by decide, by decide⟩, ⟨by omega, by omega⟩, ⟨by decide, by decide⟩, ⟨by decide, by decide⟩, hn, fun x hx => by cases hx⟩, by simp⟩
 have hx2 : x ∈ [d] := hx
 simp only [List.mem_cons, List.not_mem_nil, or_false] at hx2
 rcases hx2 with rfl <;> omega
theorem good2 {v d a : Int} (h : 0 ≤ d ∧ d < v) (ha : 0 ≤ a ∧ a < v) (hv : v ≤ 512) : GoodI v (2, 0, d, a, 0, 0, []) := by
 refine ⟨good_of (by simp [okK] <;> omega) (by simp [plainB]) (by simp) (fun x hx => ?_), ⟨⟨by decide, by decide⟩, ⟨by decide, by decide⟩, ⟨by omega, by omega⟩, ⟨by omega, by omega⟩, ⟨by decide, by decide⟩, ⟨by decide, by decide⟩, fun x hx => by cases hx⟩, by simp⟩
 have hx2 : x ∈ [a, d] := hx
 simp only [List.mem_cons, List.not_mem_nil, or_false] at hx2
 rcases hx2 with rfl | rfl <;> omega
theorem good4 {v d a : Int} (h : 0 ≤ d ∧ d < v) (ha : 0 ≤ a ∧ a < v) (hv : v ≤ 512) : GoodI v (4, 0, d, a, 0, 0, []) := by
 refine ⟨good_of (by simp [okK] <;> omega) (by simp [plainB]) (by simp) (fun x hx => ?_), ⟨⟨by decide, by decide⟩, ⟨by decide, by decide⟩, ⟨by omega, by omega⟩, ⟨by omega, by omega⟩, ⟨by decide, by decide⟩, ⟨by decide, by decide⟩, fun x hx => by cases hx⟩, by simp⟩
 have hx2 : x ∈ [a, d] := hx
 simp only [List.mem_cons, List.not_mem_nil, or_false] at hx2
 rcases hx2 with rfl | rfl <;> omega
theorem good5 {v a b : Int} (ha : 0 ≤ a ∧ a < v) (hb : 0 ≤ b ∧ b < v) (hv : v ≤ 512) : GoodI v (5, 0, 0, a, b, 0, []) := by
 refine ⟨good_of (by simp [okK] <;> omega) (by simp [plainB]) (by simp) (fun x hx => ?_), ⟨⟨by decide, by decide⟩, ⟨by decide, by decide⟩, ⟨by decide, by decide⟩, ⟨by omega, by omega⟩, ⟨by omega, by omega⟩, ⟨by decide, by decide⟩, fun x hx => by cases hx⟩, by simp⟩
 have hx2 : x ∈ [a, b] := hx
 simp only [List.mem_cons, List.not_mem_nil, or_false] at hx2
 rcases hx2 with rfl | rfl <;> omega
theorem good3 {v op d a b : Int} (ho : 1 ≤ op ∧ op ≤ 7) (h : 0 ≤ d ∧ d < v) (ha : 0 ≤ a ∧ a < v) (hb : 0 ≤ b ∧ b < v) (hv : v ≤ 512) : GoodI v (3, op, d, a, b, 0, []) := by
 refine ⟨good_of (by simp [okK] <;> omega) (by simp [plainB]) (by simp) (fun x hx => ?_), ⟨⟨by decide, by decide⟩, ⟨by omega, by omega⟩, ⟨by omega, by omega⟩, ⟨by omega, by omega⟩, ⟨by omega, by omega⟩, ⟨by decide, by decide⟩, fun x hx => by cases hx⟩, by simp⟩
 have hx2 : x ∈ [a, b, d] := hx
 simp only [List.mem_cons, List.not_mem_nil, or_false] at hx2
 rcases hx2 with rfl | rfl | rfl <;> omega
theorem good6 {v d n : Int} {args : List Int} (h : 0 ≤ d ∧ d < v) (hv : v ≤ 512) (hn : I64 n) (hl : args.length ≤ 3) (ha : ∀ x ∈ args, 0 ≤ x ∧ x < v) : GoodI v (6, 0, d, 0, 0, n, args) := by
 refine ⟨good_of (by simp [okK] <;> omega) (by simp [plainB]) hl (fun x hx => ?_), ⟨⟨by decide, by decide⟩, ⟨by decide, by decide⟩, ⟨by omega, by omega⟩, ⟨by decide, by decide⟩, ⟨by decide, by decide⟩, hn, fun x hx => ⟨by have := ha x hx; omega, by have := ha x hx; omega⟩⟩, hl⟩
 have hx2 : x ∈ args ++ [d] := hx
 rcases List.mem_append.1 hx2 with h1 | h1
 · exact ha x h1
 · rw [List.mem_singleton] at h1; omega
set_option maxHeartbeats 40000000 in
set_option maxRecDepth 100000 in
theorem mins_calls (w0 w : World) (g : Nat) (v : Int) (h : Mkr w0 w g) (hb : Below w0.heap.size w0 w) (hg : w0.heap.size ≤ g) (hv1 : 1 ≤ v) (hv2 : v ≤ 512) :
 Calls Try.prog 36 #[.pointer (some ⟨g, 0, none⟩), .int .i64 v] w fun e w' => ∃ i va, e = .returned (insVal i va) ∧ kI.R 3 w' w.heap.size (fun _ => True) va i.2.2.2.2.2.2 ∧ GoodI v i ∧ Mkr w0 w' g ∧ Keep (· = g) w w' := by
 have mixed : Try.prog.follows .mixedOrders = true := by kernel_rfl
 have hgl := h.lt
 have HI := aM (show MR w0 w (w.alloc (.cells #[.int .u8 0, .int .u8 0, .int .i64 0, .int .i64 0, .int .i64 0, .int .i64 0, .slice none 0 0] 92)) g w.heap.size from ⟨h.keep (Keep.of_below ((Below.refl _ _).alloc (Nat.le_refl _) _)) (S := fun _ => False) id, heap_alloc_new _ _, (Keep.refl _ _).alloc _, hb.alloc hb.size _, hg, hgl, rfl⟩)
 obtain ⟨WA, hWA⟩ : ∃ WA, WA = w.alloc (.cells #[.int .u8 0, .int .u8 0, .int .i64 0, .int .i64 0, .int .i64 0, .int .i64 0, .slice none 0 0] 92) := ⟨_, rfl⟩
 rw [← hWA] at HI
 have HWA := aM hWA
 clear h hb hWA
 go_enter Try.func36, Try.ntmps36
 go_upto_region 1 with fail
 rw [← HWA.out]
 obtain ⟨⟨y0, y1, y2, y3, y4, y5, y6⟩, v0, v1, v2, v3, v4, v5, v6⟩ := HI.out.rest
 go_upto_region 2 with (go_at_call 35; refine (mr_next HI.out _ (by omega) (by omega)).mono ?_; rintro _ w9 ⟨x, rfl, hx0, hx1, hi, -⟩; clear HI; (try clear y0 y1 y2 y3 y4 y5 y6 v0 v1 v2 v3 v4 v5 v6); have HI := aM hi; clear hi; (try (have hwx := wraps_u8' (1 + x) (by omega) (by omega))); obtain ⟨⟨y0, y1, y2, y3, y4, y5, y6⟩, v0, v1, v2, v3, v4, v5, v6⟩ := HI.out.rest)
 rcases (by omega : x = 0 ∨ x = 1 ∨ x = 2 ∨ x = 3 ∨ x = 4 ∨ x = 5 ∨ x = 6 ∨ x = 7 ∨ x = 8) with rfl | rfl | rfl | rfl | rfl | rfl | rfl | rfl | rfl
 · clear hx0 hx1
   go_wp2_with (go_at_call 35; refine (mr_next HI.out _ (by omega) (by omega)).mono ?_; rintro _ w9 ⟨x, rfl, hx0, hx1, hi, -⟩; clear HI; (try clear y0 y1 y2 y3 y4 y5 y6 v0 v1 v2 v3 v4 v5 v6); have HI := aM hi; clear hi; (try (have hwx := wraps_u8' (1 + x) (by omega) (by omega))); obtain ⟨⟨y0, y1, y2, y3, y4, y5, y6⟩, v0, v1, v2, v3, v4, v5, v6⟩ := HI.out.rest)
   have p := HI.out.res; have p0 := fun x0 x1 x2 x3 x4 x5 x6 => cell_at (put7 p x0 x1 x2 x3 x4 x5 x6) 0 _ rfl; have p1 := fun x0 x1 x2 x3 x4 x5 x6 => cell_at (put7 p x0 x1 x2 x3 x4 x5 x6) 1 _ rfl; have p2 := fun x0 x1 x2 x3 x4 x5 x6 => cell_at (put7 p x0 x1 x2 x3 x4 x5 x6) 2 _ rfl; have p3 := fun x0 x1 x2 x3 x4 x5 x6 => cell_at (put7 p x0 x1 x2 x3 x4 x5 x6) 3 _ rfl; have p4 := fun x0 x1 x2 x3 x4 x5 x6 => cell_at (put7 p x0 x1 x2 x3 x4 x5 x6) 4 _ rfl; have p5 := fun x0 x1 x2 x3 x4 x5 x6 => cell_at (put7 p x0 x1 x2 x3 x4 x5 x6) 5 _ rfl; have p6 := fun x0 x1 x2 x3 x4 x5 x6 => cell_at (put7 p x0 x1 x2 x3 x4 x5 x6) 6 _ rfl; (try simp only [Exit.inBlock, Exit.then]); refine bodyPost_ret (by simp [results, Try.results36, go_sem, p0, p1, p2, p3, p4, p5, p6]; try rfl) rfl ?_
   obtain ⟨o1, o2, -⟩ := HI.out.out _ _ _ _ _ _ _ _ rfl
   exact ⟨_, .slice none 0 0, rfl, Kd.R_nil _ _ _ _ _, good1 ⟨by assumption, by assumption⟩ hv2 ⟨by omega, by omega⟩, o1, o2⟩
 · clear hx0 hx1
   go_wp2_with (go_at_call 35; refine (mr_next HI.out _ (by omega) (by omega)).mono ?_; rintro _ w9 ⟨x, rfl, hx0, hx1, hi, -⟩; clear HI; (try clear y0 y1 y2 y3 y4 y5 y6 v0 v1 v2 v3 v4 v5 v6); have HI := aM hi; clear hi; (try (have hwx := wraps_u8' (1 + x) (by omega) (by omega))); obtain ⟨⟨y0, y1, y2, y3, y4, y5, y6⟩, v0, v1, v2, v3, v4, v5, v6⟩ := HI.out.rest)
   have p := HI.out.res; have p0 := fun x0 x1 x2 x3 x4 x5 x6 => cell_at (put7 p x0 x1 x2 x3 x4 x5 x6) 0 _ rfl; have p1 := fun x0 x1 x2 x3 x4 x5 x6 => cell_at (put7 p x0 x1 x2 x3 x4 x5 x6) 1 _ rfl; have p2 := fun x0 x1 x2 x3 x4 x5 x6 => cell_at (put7 p x0 x1 x2 x3 x4 x5 x6) 2 _ rfl; have p3 := fun x0 x1 x2 x3 x4 x5 x6 => cell_at (put7 p x0 x1 x2 x3 x4 x5 x6) 3 _ rfl; have p4 := fun x0 x1 x2 x3 x4 x5 x6 => cell_at (put7 p x0 x1 x2 x3 x4 x5 x6) 4 _ rfl; have p5 := fun x0 x1 x2 x3 x4 x5 x6 => cell_at (put7 p x0 x1 x2 x3 x4 x5 x6) 5 _ rfl; have p6 := fun x0 x1 x2 x3 x4 x5 x6 => cell_at (put7 p x0 x1 x2 x3 x4 x5 x6) 6 _ rfl; (try simp only [Exit.inBlock, Exit.then]); refine bodyPost_ret (by simp [results, Try.results36, go_sem, p0, p1, p2, p3, p4, p5, p6]; try rfl) rfl ?_
   obtain ⟨o1, o2, -⟩ := HI.out.out _ _ _ _ _ _ _ _ rfl
   exact ⟨_, .slice none 0 0, rfl, Kd.R_nil _ _ _ _ _, good2 ⟨by assumption, by assumption⟩ ⟨by assumption, by assumption⟩ hv2, o1, o2⟩
 · clear hx0 hx1
   go_wp2_with (go_at_call 35; refine (mr_next HI.out _ (by omega) (by omega)).mono ?_; rintro _ w9 ⟨x, rfl, hx0, hx1, hi, -⟩; clear HI; (try clear y0 y1 y2 y3 y4 y5 y6 v0 v1 v2 v3 v4 v5 v6); have HI := aM hi; clear hi; (try (have hwx := wraps_u8' (1 + x) (by omega) (by omega))); obtain ⟨⟨y0, y1, y2, y3, y4, y5, y6⟩, v0, v1, v2, v3, v4, v5, v6⟩ := HI.out.rest)
   have p := HI.out.res; have p0 := fun x0 x1 x2 x3 x4 x5 x6 => cell_at (put7 p x0 x1 x2 x3 x4 x5 x6) 0 _ rfl; have p1 := fun x0 x1 x2 x3 x4 x5 x6 => cell_at (put7 p x0 x1 x2 x3 x4 x5 x6) 1 _ rfl; have p2 := fun x0 x1 x2 x3 x4 x5 x6 => cell_at (put7 p x0 x1 x2 x3 x4 x5 x6) 2 _ rfl; have p3 := fun x0 x1 x2 x3 x4 x5 x6 => cell_at (put7 p x0 x1 x2 x3 x4 x5 x6) 3 _ rfl; have p4 := fun x0 x1 x2 x3 x4 x5 x6 => cell_at (put7 p x0 x1 x2 x3 x4 x5 x6) 4 _ rfl; have p5 := fun x0 x1 x2 x3 x4 x5 x6 => cell_at (put7 p x0 x1 x2 x3 x4 x5 x6) 5 _ rfl; have p6 := fun x0 x1 x2 x3 x4 x5 x6 => cell_at (put7 p x0 x1 x2 x3 x4 x5 x6) 6 _ rfl; (try simp only [Exit.inBlock, Exit.then]); refine bodyPost_ret (by simp [results, Try.results36, go_sem, p0, p1, p2, p3, p4, p5, p6]; try rfl) rfl ?_
   obtain ⟨o1, o2, -⟩ := HI.out.out _ _ _ _ _ _ _ _ rfl
   exact ⟨_, .slice none 0 0, rfl, Kd.R_nil _ _ _ _ _, good3 ⟨by omega, by omega⟩ ⟨by assumption, by assumption⟩ ⟨by assumption, by assumption⟩ ⟨by assumption, by assumption⟩ hv2, o1, o2⟩
 · clear hx0 hx1
   go_wp2_with (go_at_call 35; refine (mr_next HI.out _ (by omega) (by omega)).mono ?_; rintro _ w9 ⟨x, rfl, hx0, hx1, hi, -⟩; clear HI; (try clear y0 y1 y2 y3 y4 y5 y6 v0 v1 v2 v3 v4 v5 v6); have HI := aM hi; clear hi; (try (have hwx := wraps_u8' (1 + x) (by omega) (by omega))); obtain ⟨⟨y0, y1, y2, y3, y4, y5, y6⟩, v0, v1, v2, v3, v4, v5, v6⟩ := HI.out.rest)
   have p := HI.out.res; have p0 := fun x0 x1 x2 x3 x4 x5 x6 => cell_at (put7 p x0 x1 x2 x3 x4 x5 x6) 0 _ rfl; have p1 := fun x0 x1 x2 x3 x4 x5 x6 => cell_at (put7 p x0 x1 x2 x3 x4 x5 x6) 1 _ rfl; have p2 := fun x0 x1 x2 x3 x4 x5 x6 => cell_at (put7 p x0 x1 x2 x3 x4 x5 x6) 2 _ rfl; have p3 := fun x0 x1 x2 x3 x4 x5 x6 => cell_at (put7 p x0 x1 x2 x3 x4 x5 x6) 3 _ rfl; have p4 := fun x0 x1 x2 x3 x4 x5 x6 => cell_at (put7 p x0 x1 x2 x3 x4 x5 x6) 4 _ rfl; have p5 := fun x0 x1 x2 x3 x4 x5 x6 => cell_at (put7 p x0 x1 x2 x3 x4 x5 x6) 5 _ rfl; have p6 := fun x0 x1 x2 x3 x4 x5 x6 => cell_at (put7 p x0 x1 x2 x3 x4 x5 x6) 6 _ rfl; (try simp only [Exit.inBlock, Exit.then]); refine bodyPost_ret (by simp [results, Try.results36, go_sem, p0, p1, p2, p3, p4, p5, p6]; try rfl) rfl ?_
   obtain ⟨o1, o2, -⟩ := HI.out.out _ _ _ _ _ _ _ _ rfl
   exact ⟨_, .slice none 0 0, rfl, Kd.R_nil _ _ _ _ _, good4 ⟨by assumption, by assumption⟩ ⟨by assumption, by assumption⟩ hv2, o1, o2⟩
 · clear hx0 hx1
   go_wp2_with (go_at_call 35; refine (mr_next HI.out _ (by omega) (by omega)).mono ?_; rintro _ w9 ⟨x, rfl, hx0, hx1, hi, -⟩; clear HI; (try clear y0 y1 y2 y3 y4 y5 y6 v0 v1 v2 v3 v4 v5 v6); have HI := aM hi; clear hi; (try (have hwx := wraps_u8' (1 + x) (by omega) (by omega))); obtain ⟨⟨y0, y1, y2, y3, y4, y5, y6⟩, v0, v1, v2, v3, v4, v5, v6⟩ := HI.out.rest)
   have p := HI.out.res; have p0 := fun x0 x1 x2 x3 x4 x5 x6 => cell_at (put7 p x0 x1 x2 x3 x4 x5 x6) 0 _ rfl; have p1 := fun x0 x1 x2 x3 x4 x5 x6 => cell_at (put7 p x0 x1 x2 x3 x4 x5 x6) 1 _ rfl; have p2 := fun x0 x1 x2 x3 x4 x5 x6 => cell_at (put7 p x0 x1 x2 x3 x4 x5 x6) 2 _ rfl; have p3 := fun x0 x1 x2 x3 x4 x5 x6 => cell_at (put7 p x0 x1 x2 x3 x4 x5 x6) 3 _ rfl; have p4 := fun x0 x1 x2 x3 x4 x5 x6 => cell_at (put7 p x0 x1 x2 x3 x4 x5 x6) 4 _ rfl; have p5 := fun x0 x1 x2 x3 x4 x5 x6 => cell_at (put7 p x0 x1 x2 x3 x4 x5 x6) 5 _ rfl; have p6 := fun x0 x1 x2 x3 x4 x5 x6 => cell_at (put7 p x0 x1 x2 x3 x4 x5 x6) 6 _ rfl; (try simp only [Exit.inBlock, Exit.then]); refine bodyPost_ret (by simp [results, Try.results36, go_sem, p0, p1, p2, p3, p4, p5, p6]; try rfl) rfl ?_
   obtain ⟨o1, o2, -⟩ := HI.out.out _ _ _ _ _ _ _ _ rfl
   exact ⟨_, .slice none 0 0, rfl, Kd.R_nil _ _ _ _ _, good5 ⟨by assumption, by assumption⟩ ⟨by assumption, by assumption⟩ hv2, o1, o2⟩
 · clear hx0 hx1
   have HFL := aM trivial
   go_upto_region 11 with (first | (go_at_call 35; clear HFL; refine (mr_next HI.out _ (by omega) (by omega)).mono ?_; rintro _ w9 ⟨d, rfl, hd0, hd1, hi, -⟩; clear HI; (try clear y0 y1 y2 y3 y4 y5 y6 v0 v1 v2 v3 v4 v5 v6); have HI := aM hi; clear hi; obtain ⟨⟨y0, y1, y2, y3, y4, y5, y6⟩, v0, v1, v2, v3, v4, v5, v6⟩ := HI.out.rest) | (go_at_call 35; refine (mr_next HI.out _ (by omega) (by omega)).mono ?_; rintro _ w9 ⟨n, rfl, hn0, hn1, hi, -⟩; clear HI; (try clear y0 y1 y2 y3 y4 y5 y6 v0 v1 v2 v3 v4 v5 v6); have HI := aM hi; clear hi; obtain ⟨⟨y0, y1, y2, y3, y4, y5, y6⟩, v0, v1, v2, v3, v4, v5, v6⟩ := HI.out.rest))
   obtain ⟨gb, hgb⟩ : ∃ gb, w9.heap.size = gb := ⟨_, rfl⟩
   have HMB := aM (show MB w0 w (w9.alloc (.cells #[.int .u8 6, .int .u8 0, .int .i64 d, .int .i64 0, .int .i64 0, .int .i64 n, .slice none 0 0] 92)) g w.heap.size gb #[.int .u8 6, .int .u8 0, .int .i64 d, .int .i64 0, .int .i64 0, .int .i64 n, .slice none 0 0] from by
    have hz := blk_lt HI.out.res
    refine ⟨HI.out.step (Keep.of_below ((Below.refl _ _).alloc (Nat.le_refl _) _)) (HI.out.mkr.keep (S := fun _ => False) (Keep.of_below ((Below.refl _ _).alloc (Nat.le_refl _) _)) id), ?_, by omega⟩
    rw [← hgb]
    exact heap_alloc_new _ _)
   rw [hgb]
   obtain ⟨WB, hWB⟩ : ∃ WB, WB = w9.alloc (.cells #[.int .u8 6, .int .u8 0, .int .i64 d, .int .i64 0, .int .i64 0, .int .i64 n, .slice none 0 0] 92) := ⟨_, rfl⟩
   rw [← hWB] at HMB ⊢
   clear hWB hgb HI y0 y1 y2 y3 y4 y5 y6 v0 v1 v2 v3 v4 v5 v6
   go_wp2_with (go_at_call 35; refine (mb_next HMB.out 4 (by omega) (by omega)).mono ?_; rintro _ w8 ⟨cz, rfl, hc0, hc1, hi, -⟩; clear HMB; have HMB := aM hi; clear hi; obtain ⟨C, hC⟩ : ∃ C : Nat, cz = (C : Int) := ⟨cz.toNat, by omega⟩; subst hC)
   go_loopw [53] (fun vi wr => ∃ i' : Nat, i' ≤ C ∧ vi = .int .i64 i' ∧ ∃ va xs, Aside0 (MB w0 w wr g w.heap.size gb #[.int .u8 6, .int .u8 0, .int .i64 d, .int .i64 0, .int .i64 0, .int .i64 n, va]) ∧ Aside0 (kI.R 3 wr (gb + 1) (fun k => gb < k) va xs) ∧ xs.length = i' ∧ Aside0 (∀ x ∈ xs, 0 ≤ x ∧ x < v)) (fun vi _ => C - (intOf vi).toNat)
   case atStart => exact ⟨0, by omega, rfl, .slice none 0 0, [], HMB, ⟨Kd.R_nil _ _ _ _ _⟩, rfl, ⟨fun x hx => by cases hx⟩⟩
   case round =>
    clear HMB
    obtain ⟨wa, hwa⟩ : ∃ wa, wa = wr := ⟨_, rfl⟩
    subst hwa
    obtain ⟨i', hi', rfl, va, xs, HJ, HV, hxl, HXR⟩ := hrel
    by_cases hil : i' < C
    · have HGG := aM (show g < gb from by have := HJ.out.m.hg; have := HJ.out.hgb; omega)
      have HC6 := aM (show ∀ W', Keep (fun i => i = g ∨ gb < i) wa.drew W' → W'.heap[gb]? = some (.cells #[.int .u8 6, .int .u8 0, .int .i64 d, .int .i64 0, .int .i64 0, .int .i64 n, va] 92 (0, 0)) from fun W' h => (h.block gb (blk_lt HJ.out.bx) (fun e => by have := HGG.out; omega)).trans HJ.out.bx)
      go_wp2_with fail
      refine re_start [8] (fun i => i = g ∨ gb < i) (by kernel_rfl) (n := 9) (l := (bl 9 0)) (by kernel_rfl) (by kernel_rfl) ?_
      refine et 0 (bl 9 1) rfl (fun w' hR => by go_simp; first | done | with_reducible rfl) rfl ?_
      try simp only [Act.put, pB, pC, pD]
      refine et 1 (bl 9 3) rfl (fun w' hR => by have x0 := cell_at (HC6.out w' hR) 6 va rfl; go_simp; first | done | with_reducible rfl) rfl ?_
      try simp only [Act.put, pB, pC, pD]
      refine et 2 (bl 9 7) rfl (fun w' hR => by go_simp; first | done | with_reducible rfl) rfl ?_
      try simp only [Act.put, pB, pC, pD]
      refine et 3 (bl 9 15) rfl (fun w' hR => by go_simp; first | done | with_reducible rfl) rfl ?_
      try simp only [Act.put, pB, pC, pD]
      refine re_step (fuel := 4) 4 rfl (by kernel_rfl) (listed' := (bl 9 31)) (by kernel_rfl) (by kernel_rfl) (fun K' hK => ?_)
      go_wp2_with (go_at_call 35; refine (next_calls w0 wa.drew g v (HJ.out.m.mkr.keep (S := fun _ => False) (Keep.refl _ wa).drew id) HJ.out.m.b0.drew HJ.out.m.hg0 hv1 (by omega)).mono ?_; rintro _ w3 ⟨x, rfl, hx0, hx1, hmk, hk, -⟩; have HM3 := aM hmk; have HK3 := aM hk; clear hmk hk)
      refine hK.out _ _ (HK3.out.mono (fun i _ h => .inl h)) ?_
      clear hK K'
      try simp only [Act.put, pB, pC, pD]
      refine re_step (fuel := 3) 5 rfl (by kernel_rfl) (listed' := (bl 9 63)) (by kernel_rfl) (by kernel_rfl) (fun K' hK => ?_)
      (go_wp2_with fail); have HM4 := aM (HM3.out.keep (S := fun _ => False) (Keep.of_below ((Below.refl w3.heap.size w3).alloc (Nat.le_refl _) (.cells #[.int .i64 x] 3))) id)
      refine hK.out _ _ (Keep.of_below ((Below.refl w3.heap.size w3).alloc (Nat.le_refl _) (.cells #[.int .i64 x] 3))) ?_
      clear hK K'
      try simp only [Act.put, pB, pC, pD]
      refine re_step (fuel := 2) 6 rfl (by kernel_rfl) (listed' := (bl 9 127)) (by kernel_rfl) (by kernel_rfl) (fun K' hK => ?_)
      refine R_append_wp kI (W := w3) (gb + 1) (.tmp 56) (.tmp 60) 31 3 (.int .i64 0) 8 rfl Try.underlying31 infoI rfl (by decide) (by decide) va xs x [.int .i64 x] (fun k => gb < k) (fun _ => False) rfl rfl rfl (fun _ h => h.elim) (fun k hk => Nat.lt_of_lt_of_le (blk_lt HJ.out.bx) (Nat.le_trans HK3.out.size hk)) (Kd.R_step HV.out (fun k hk hl => HK3.out.block k hl (fun e => by have e : k = g := e; have := HGG.out; omega))) (Nat.lt_of_lt_of_le (blk_lt HJ.out.bx) HK3.out.size) (by omega) ?_; intro v4 w4 ho4 hg4 hg4' hat4; obtain ⟨A4, c4, hv4, -, -⟩ := Kd.R_reads ho4; obtain ⟨m4, hm4⟩ : ∃ m4, (xs ++ [x]).length = m4 := ⟨_, rfl⟩; rw [hm4] at hv4; subst hv4; clear hm4; have HO4 := aM ho4; have HK4 := aM (show Keep (fun i => gb < i) (w3.alloc (.cells #[.int .i64 x] 3)) w4 from grown_keep hg4' (fun i hi => HV.out.1 i hi)); clear ho4 hg4 hg4' hat4
      refine hK.out _ _ (HK4.out.mono (fun i _ h => .inr h)) ?_
      clear hK K'
      try simp only [Act.put, pB, pC, pD]
      refine et 7 (bl 9 255) rfl (fun w' hR => by go_simp; first | done | with_reducible rfl) rfl ?_
      try simp only [Act.put, pB, pC, pD]
      refine re_free (fuel := 0) 8 rfl (by kernel_rfl) (listed' := (bl 9 511)) (by kernel_rfl) (by kernel_rfl) (fun K' hK => ?_)
      have hk4 : Keep (fun i => i = g ∨ gb < i) wa.drew w4 := ((HK3.out.mono (fun i _ h => .inl h)).trans (Keep.of_below ((Below.refl w3.heap.size w3).alloc (Nat.le_refl _) (.cells #[.int .i64 x] 3)))).trans (HK4.out.mono (fun i _ h => .inr h)); have hh := HC6.out w4 hk4; have x7 := cell_at hh 6 va rfl; have x8 := blk_frozen hh 6; have HKW := aM hk4; clear hk4 hh; go_wp2_with fail
      refine hK.out _ _ trivial ?_
      clear hK K'
      try simp only [Act.put, pB, pC, pD]
      refine re_done (by kernel_rfl) ?_
      have HIN := aM (show MB w0 w (w4.setCell ⟨gb, 6, none⟩ (.slice A4 m4 c4)) g w.heap.size gb #[.int .u8 6, .int .u8 0, .int .i64 d, .int .i64 0, .int .i64 0, .int .i64 n, .slice A4 m4 c4] from (HJ.out.move HKW.out (HM4.out.keep HK4.out (fun e => by have := HGG.out; omega))).set 6 (.slice A4 m4 c4))
      have HRN := aM (show kI.R 3 (w4.setCell ⟨gb, 6, none⟩ (.slice A4 m4 c4)) (gb + 1) (fun k => gb < k) (.slice A4 m4 c4) (xs ++ [x]) from Kd.R_step HO4.out (fun k hk hl => Below.heap_setCell _ _ _ _ (show k ≠ gb by omega)))
      have HXN := aM (show ∀ y ∈ xs ++ [x], 0 ≤ y ∧ y < v from fun y hy => by
       rcases List.mem_append.1 hy with h | h
       · exact HXR.out y h
       · rw [List.mem_singleton] at h; subst h; exact ⟨hx0, hx1⟩)
      have hxl2 : (xs ++ [x]).length = i' + 1 := by rw [List.length_append, hxl]; rfl
      have HXL := aM hxl2
      clear hxl2
      go_wp2
      go_roundw
      case rel => exact ⟨i' + 1, by omega, by go_num, .slice A4 m4 c4, xs ++ [x], HIN, HRN, HXL.out, HXN⟩
      case measure => simp [intOf]; omega
    · obtain rfl : i' = C := by omega
      have HI := aM HJ.out.m
      obtain ⟨Av, cv, hv, -, -⟩ := Kd.R_reads HV.out
      obtain ⟨mv, hmv⟩ : ∃ m, xs.length = m := ⟨_, rfl⟩
      rw [hmv] at hv
      subst hv
      have c0 := cell_at HJ.out.bx 0 _ rfl
      have c1 := cell_at HJ.out.bx 1 _ rfl
      have c2 := cell_at HJ.out.bx 2 _ rfl
      have c3 := cell_at HJ.out.bx 3 _ rfl
      have c4 := cell_at HJ.out.bx 4 _ rfl
      have c5 := cell_at HJ.out.bx 5 _ rfl
      have c6 := cell_at HJ.out.bx 6 _ rfl
      obtain ⟨⟨y0, y1, y2, y3, y4, y5, y6⟩, v0, v1, v2, v3, v4, v5, v6⟩ := HI.out.rest
      go_wp2
      have p := HI.out.res; have p0 := fun x0 x1 x2 x3 x4 x5 x6 => cell_at (put7 p x0 x1 x2 x3 x4 x5 x6) 0 _ rfl; have p1 := fun x0 x1 x2 x3 x4 x5 x6 => cell_at (put7 p x0 x1 x2 x3 x4 x5 x6) 1 _ rfl; have p2 := fun x0 x1 x2 x3 x4 x5 x6 => cell_at (put7 p x0 x1 x2 x3 x4 x5 x6) 2 _ rfl; have p3 := fun x0 x1 x2 x3 x4 x5 x6 => cell_at (put7 p x0 x1 x2 x3 x4 x5 x6) 3 _ rfl; have p4 := fun x0 x1 x2 x3 x4 x5 x6 => cell_at (put7 p x0 x1 x2 x3 x4 x5 x6) 4 _ rfl; have p5 := fun x0 x1 x2 x3 x4 x5 x6 => cell_at (put7 p x0 x1 x2 x3 x4 x5 x6) 5 _ rfl; have p6 := fun x0 x1 x2 x3 x4 x5 x6 => cell_at (put7 p x0 x1 x2 x3 x4 x5 x6) 6 _ rfl; (try simp only [Exit.inBlock, Exit.then]); refine bodyPost_ret (by simp [results, Try.results36, go_sem, p0, p1, p2, p3, p4, p5, p6]; try rfl) rfl ?_
      obtain ⟨o1, o2, o3⟩ := HI.out.out _ _ _ _ _ _ _ _ rfl
      have h3 := HJ.out.hgb
      exact ⟨(6, 0, d, 0, 0, n, xs), .slice Av mv cv, rfl, Kd.R_lower (Kd.R_mono (Kd.R_step HV.out (fun k hk hl => o3.block k hl (fun e => by have e : k = w.heap.size := e; omega))) (fun _ _ => trivial)) (by omega), good6 ⟨hd0, hd1⟩ hv2 ⟨by omega, by omega⟩ (by omega) HXR.out, o1, o2⟩
 · clear hx0 hx1
   go_wp2_with (go_at_call 35; refine (mr_next HI.out _ (by omega) (by omega)).mono ?_; rintro _ w9 ⟨x, rfl, hx0, hx1, hi, -⟩; clear HI; (try clear y0 y1 y2 y3 y4 y5 y6 v0 v1 v2 v3 v4 v5 v6); have HI := aM hi; clear hi; (try (have hwx := wraps_u8' (1 + x) (by omega) (by omega))); obtain ⟨⟨y0, y1, y2, y3, y4, y5, y6⟩, v0, v1, v2, v3, v4, v5, v6⟩ := HI.out.rest)
   have p := HI.out.res; have p0 := fun x0 x1 x2 x3 x4 x5 x6 => cell_at (put7 p x0 x1 x2 x3 x4 x5 x6) 0 _ rfl; have p1 := fun x0 x1 x2 x3 x4 x5 x6 => cell_at (put7 p x0 x1 x2 x3 x4 x5 x6) 1 _ rfl; have p2 := fun x0 x1 x2 x3 x4 x5 x6 => cell_at (put7 p x0 x1 x2 x3 x4 x5 x6) 2 _ rfl; have p3 := fun x0 x1 x2 x3 x4 x5 x6 => cell_at (put7 p x0 x1 x2 x3 x4 x5 x6) 3 _ rfl; have p4 := fun x0 x1 x2 x3 x4 x5 x6 => cell_at (put7 p x0 x1 x2 x3 x4 x5 x6) 4 _ rfl; have p5 := fun x0 x1 x2 x3 x4 x5 x6 => cell_at (put7 p x0 x1 x2 x3 x4 x5 x6) 5 _ rfl; have p6 := fun x0 x1 x2 x3 x4 x5 x6 => cell_at (put7 p x0 x1 x2 x3 x4 x5 x6) 6 _ rfl; (try simp only [Exit.inBlock, Exit.then]); refine bodyPost_ret (by simp [results, Try.results36, go_sem, p0, p1, p2, p3, p4, p5, p6]; try rfl) rfl ?_
   obtain ⟨o1, o2, -⟩ := HI.out.out _ _ _ _ _ _ _ _ rfl
   exact ⟨_, .slice none 0 0, rfl, Kd.R_nil _ _ _ _ _, good2 ⟨by assumption, by assumption⟩ ⟨by assumption, by assumption⟩ hv2, o1, o2⟩
 · clear hx0 hx1
   go_wp2_with (go_at_call 35; refine (mr_next HI.out _ (by omega) (by omega)).mono ?_; rintro _ w9 ⟨x, rfl, hx0, hx1, hi, -⟩; clear HI; (try clear y0 y1 y2 y3 y4 y5 y6 v0 v1 v2 v3 v4 v5 v6); have HI := aM hi; clear hi; (try (have hwx := wraps_u8' (1 + x) (by omega) (by omega))); obtain ⟨⟨y0, y1, y2, y3, y4, y5, y6⟩, v0, v1, v2, v3, v4, v5, v6⟩ := HI.out.rest)
   have p := HI.out.res; have p0 := fun x0 x1 x2 x3 x4 x5 x6 => cell_at (put7 p x0 x1 x2 x3 x4 x5 x6) 0 _ rfl; have p1 := fun x0 x1 x2 x3 x4 x5 x6 => cell_at (put7 p x0 x1 x2 x3 x4 x5 x6) 1 _ rfl; have p2 := fun x0 x1 x2 x3 x4 x5 x6 => cell_at (put7 p x0 x1 x2 x3 x4 x5 x6) 2 _ rfl; have p3 := fun x0 x1 x2 x3 x4 x5 x6 => cell_at (put7 p x0 x1 x2 x3 x4 x5 x6) 3 _ rfl; have p4 := fun x0 x1 x2 x3 x4 x5 x6 => cell_at (put7 p x0 x1 x2 x3 x4 x5 x6) 4 _ rfl; have p5 := fun x0 x1 x2 x3 x4 x5 x6 => cell_at (put7 p x0 x1 x2 x3 x4 x5 x6) 5 _ rfl; have p6 := fun x0 x1 x2 x3 x4 x5 x6 => cell_at (put7 p x0 x1 x2 x3 x4 x5 x6) 6 _ rfl; (try simp only [Exit.inBlock, Exit.then]); refine bodyPost_ret (by simp [results, Try.results36, go_sem, p0, p1, p2, p3, p4, p5, p6]; try rfl) rfl ?_
   obtain ⟨o1, o2, -⟩ := HI.out.out _ _ _ _ _ _ _ _ rfl
   exact ⟨_, .slice none 0 0, rfl, Kd.R_nil _ _ _ _ _, good3 ⟨by omega, by omega⟩ ⟨by assumption, by assumption⟩ ⟨by assumption, by assumption⟩ ⟨by assumption, by assumption⟩ hv2, o1, o2⟩
 · clear hx0 hx1
   go_wp2_with (go_at_call 35; refine (mr_next HI.out _ (by omega) (by omega)).mono ?_; rintro _ w9 ⟨x, rfl, hx0, hx1, hi, -⟩; clear HI; (try clear y0 y1 y2 y3 y4 y5 y6 v0 v1 v2 v3 v4 v5 v6); have HI := aM hi; clear hi; (try (have hwx := wraps_u8' (1 + x) (by omega) (by omega))); obtain ⟨⟨y0, y1, y2, y3, y4, y5, y6⟩, v0, v1, v2, v3, v4, v5, v6⟩ := HI.out.rest)
   have p := HI.out.res; have p0 := fun x0 x1 x2 x3 x4 x5 x6 => cell_at (put7 p x0 x1 x2 x3 x4 x5 x6) 0 _ rfl; have p1 := fun x0 x1 x2 x3 x4 x5 x6 => cell_at (put7 p x0 x1 x2 x3 x4 x5 x6) 1 _ rfl; have p2 := fun x0 x1 x2 x3 x4 x5 x6 => cell_at (put7 p x0 x1 x2 x3 x4 x5 x6) 2 _ rfl; have p3 := fun x0 x1 x2 x3 x4 x5 x6 => cell_at (put7 p x0 x1 x2 x3 x4 x5 x6) 3 _ rfl; have p4 := fun x0 x1 x2 x3 x4 x5 x6 => cell_at (put7 p x0 x1 x2 x3 x4 x5 x6) 4 _ rfl; have p5 := fun x0 x1 x2 x3 x4 x5 x6 => cell_at (put7 p x0 x1 x2 x3 x4 x5 x6) 5 _ rfl; have p6 := fun x0 x1 x2 x3 x4 x5 x6 => cell_at (put7 p x0 x1 x2 x3 x4 x5 x6) 6 _ rfl; (try simp only [Exit.inBlock, Exit.then]); refine bodyPost_ret (by simp [results, Try.results36, go_sem, p0, p1, p2, p3, p4, p5, p6]; try rfl) rfl ?_
   obtain ⟨o1, o2, -⟩ := HI.out.out _ _ _ _ _ _ _ _ rfl
   exact ⟨_, .slice none 0 0, rfl, Kd.R_nil _ _ _ _ _, good3 ⟨by omega, by omega⟩ ⟨by assumption, by assumption⟩ ⟨by assumption, by assumption⟩ ⟨by assumption, by assumption⟩ hv2, o1, o2⟩
end Go.Proofs.Ytnckonglodmfeaa.Ik
