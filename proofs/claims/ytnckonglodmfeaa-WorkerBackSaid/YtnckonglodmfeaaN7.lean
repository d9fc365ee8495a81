/- Contracts and plain facts that the statements' proofs use (part 7). -/
import Derived.Test.YtnckonglodmfeaaN2
import Derived.Test.YtnckonglodmfeaaN3
import Derived.Test.YtnckonglodmfeaaN4
import Derived.Test.YtnckonglodmfeaaN5
import Derived.Test.YtnckonglodmfeaaN6
import Derived.Handy
set_option linter.unusedVariables false
set_option linter.unusedSimpArgs false
namespace Go.Proofs.Ytnckonglodmfeaa.Ik
open Go.RowKit Go.Proofs.YtnckonglodmfeaaW.PrintWords Go.Proofs.YtnckonglodmfeaaW.PrintLast Go.Proofs.YtnckonglodmfeaaW.PrintMore B R S Is
theorem run_equalE (d : Nat) (W : World) (k a t e k' a' t' e' : Int) : (Op.equalIn (d + 2) 82 (.agg #[.int .u8 k, .int .i64 a, .int .i64 t, .int .i64 e]) (.agg #[.int .u8 k', .int .i64 a', .int .i64 t', .int .i64 e'])).run Try.prog W = .ok (k == k' && (a == a' && (t == t' && (e == e')))) W := by
 refine eqA_of Try.underlying82 (by kernel_rfl) ?_
 refine eqf_cons (by rfl) (by go_simp; rfl) (by go_simp; rfl) (by go_simp) ?_
 refine eqf_cons (by rfl) (by go_simp; rfl) (by go_simp; rfl) (by go_simp) ?_
 refine eqf_cons (by rfl) (by go_simp; rfl) (by go_simp; rfl) (by go_simp) ?_
 exact eqf_last (by rfl) (by go_simp; rfl) (by go_simp; rfl) (by go_simp)
theorem run_neqE (W : World) (k a t e k' a' t' e' : Int) : (binOp .neq 82 (.agg #[.int .u8 k, .int .i64 a, .int .i64 t, .int .i64 e]) (.agg #[.int .u8 k', .int .i64 a', .int .i64 t', .int .i64 e'])).run Try.prog W = .ok (.bool (!(k == k' && (a == a' && (t == t' && (e == e')))))) W := by
 simp only [binOp]
 simp [Op.equal, Op.maxDepth, run_equalE 9998 W]
theorem keep2 {W : World} {N : Nat} (hN : N ≤ W.heap.size) (a b a' b' : Obj) : Keep (fun i => N ≤ i) ((W.alloc a).alloc b) ((W.alloc a').alloc b') := by
 refine ⟨rfl, rfl, rfl, by rw [World.size_alloc, World.size_alloc, World.size_alloc, World.size_alloc]; exact Nat.le_refl _, fun k hk hs => ?_⟩
 have hk' : k < W.heap.size := by omega
 rw [heap_alloc_old _ _ (by rw [World.size_alloc]; omega), heap_alloc_old _ _ hk', heap_alloc_old _ _ (by rw [World.size_alloc]; omega), heap_alloc_old _ _ hk']
theorem keep_drew2 {S : Nat → Prop} {a b : World} (h : Keep S a b) : Keep S a.drew b.drew := ⟨h.os, h.tape, h.output, h.size, h.block⟩
theorem keep_alloc {S : Nat → Prop} (W : World) (o : Obj) : Keep S W (W.alloc o) := (Keep.refl S W).alloc o
set_option maxHeartbeats 8000000 in
set_option maxRecDepth 100000 in
theorem same_blocks (l : List Blk) (n : Nat) (hn : l.length = n) (A B : Option Addr) (c e : Nat) (w : World) (hA : kBlk.C w A n l) (hB : kBlk.C w B n l) :
 Calls Try.prog 84 #[.slice A n c, .slice B n e] w fun r w' => r = .returned (.bool true) ∧ Below w.heap.size w w' := by
 have mixed : Try.prog.follows .mixedOrders = true := by kernel_rfl
 subst hn
 have HA := aM hA
 have HB := aM hB
 have hll := hA.2.1
 clear hA hB
 go_enter Try.func84, Try.ntmps84
 go_wp2_with fail
 go_loopw [5] (fun vi wr => ∃ j : Nat, j ≤ l.length ∧ vi = .int .i64 j ∧ Aside0 (Below w.heap.size w wr)) (fun vi _ => l.length - (intOf vi).toNat)
 case atStart => exact ⟨0, by omega, rfl, ⟨Below.refl _ _⟩⟩
 case round =>
  obtain ⟨wo, hwo⟩ : ∃ wo, wo = wr := ⟨_, rfl⟩
  subst hwo
  obtain ⟨j, hj, rfl, HZ⟩ := hrel
  by_cases hjl : j < l.length
  · obtain ⟨⟨is, k, a, tt, ee⟩, hx⟩ : ∃ x, l[j]? = some x := ⟨_, List.getElem?_eq_getElem hjl⟩
    obtain ⟨ad, A1, n1, rfl, b0, b1, b2, b3, b4, hn1, hC1⟩ := blk_cells HA.out hx
    obtain ⟨ad', A1', n1', rfl, c0, c1, c2, c3, c4, hn1', hC1'⟩ := blk_cells HB.out hx
    have hil0 := hC1.2.1
    have HC1 := aM hC1
    have HC1' := aM hC1'
    have HBX := aM (show ∀ W', Below w.heap.size w W' → (W'.cell? (ad.add (j * 5)) = some (.slice A1 is.length n1) ∧ W'.cell? ⟨(ad.add (j * 5)).block, (ad.add (j * 5)).off + 1, none⟩ = some (.int .u8 k) ∧ W'.cell? ⟨(ad.add (j * 5)).block, (ad.add (j * 5)).off + 2, none⟩ = some (.int .i64 a) ∧ W'.cell? ⟨(ad.add (j * 5)).block, (ad.add (j * 5)).off + 3, none⟩ = some (.int .i64 tt) ∧ W'.cell? ⟨(ad.add (j * 5)).block, (ad.add (j * 5)).off + 4, none⟩ = some (.int .i64 ee)) ∧
     W'.cell? (ad'.add (j * 5)) = some (.slice A1' is.length n1') ∧ W'.cell? ⟨(ad'.add (j * 5)).block, (ad'.add (j * 5)).off + 1, none⟩ = some (.int .u8 k) ∧ W'.cell? ⟨(ad'.add (j * 5)).block, (ad'.add (j * 5)).off + 2, none⟩ = some (.int .i64 a) ∧ W'.cell? ⟨(ad'.add (j * 5)).block, (ad'.add (j * 5)).off + 3, none⟩ = some (.int .i64 tt) ∧ W'.cell? ⟨(ad'.add (j * 5)).block, (ad'.add (j * 5)).off + 4, none⟩ = some (.int .i64 ee) from fun W' h =>
     ⟨⟨pw_cell_below h b0, pw_cell_below h b1, pw_cell_below h b2, pw_cell_below h b3, pw_cell_below h b4⟩, pw_cell_below h c0, pw_cell_below h c1, pw_cell_below h c2, pw_cell_below h c3, pw_cell_below h c4⟩)
    have HBK := aM (show ∀ W', Keep (fun _ => False) wo.drew W' → Below w.heap.size w W' from fun W' h => Keep.below_then HZ.out.drew h HZ.out.size (fun _ _ => id))
    have hne := fun W => run_neqE W k a tt ee k a tt ee
    have hbb : (!(k == k && (a == a && (tt == tt && (ee == ee))))) = false := by simp
    simp only [hbb] at hne
    clear hx hC1 hC1' b0 b1 b2 b3 b4 c0 c1 c2 c3 c4 hbb
    go_wp2_with fail
    refine rk_start (fun _ => False) (by kernel_rfl) (n := 26) (l := (bl 26 0)) (by kernel_rfl) (by kernel_rfl) ?_
    refine kt 0 (bl 26 1) rfl (fun w' hR => by go_simp; first | done | with_reducible rfl) rfl ?_
    try simp only [Act.put, pB, pC, pD]
    refine kt 1 (bl 26 3) rfl (fun w' hR => by go_simp; first | done | with_reducible rfl) rfl ?_
    try simp only [Act.put, pB, pC, pD]
    refine kt 2 (bl 26 7) rfl (fun w' hR => by go_simp; first | done | with_reducible rfl) rfl ?_
    try simp only [Act.put, pB, pC, pD]
    refine kt 3 (bl 26 15) rfl (fun w' hR => by go_simp; first | done | with_reducible rfl) rfl ?_
    try simp only [Act.put, pB, pC, pD]
    refine kt 4 (bl 26 31) rfl (fun w' hR => by obtain ⟨⟨x0, x1, x2, x3, x4⟩, y0, y1, y2, y3, y4⟩ := HBX.out w' (HBK.out w' hR); go_simp; first | done | with_reducible rfl) rfl ?_
    try simp only [Act.put, pB, pC, pD]
    refine kt 5 (bl 26 63) rfl (fun w' hR => by go_simp; first | done | with_reducible rfl) rfl ?_
    try simp only [Act.put, pB, pC, pD]
    refine kt 6 (bl 26 127) rfl (fun w' hR => by go_simp; first | done | with_reducible rfl) rfl ?_
    try simp only [Act.put, pB, pC, pD]
    refine kt 7 (bl 26 255) rfl (fun w' hR => by go_simp; first | done | with_reducible rfl) rfl ?_
    try simp only [Act.put, pB, pC, pD]
    refine kt 8 (bl 26 511) rfl (fun w' hR => by go_simp; first | done | with_reducible rfl) rfl ?_
    try simp only [Act.put, pB, pC, pD]
    refine kt 9 (bl 26 1023) rfl (fun w' hR => by obtain ⟨⟨x0, x1, x2, x3, x4⟩, y0, y1, y2, y3, y4⟩ := HBX.out w' (HBK.out w' hR); go_simp; first | done | with_reducible rfl) rfl ?_
    try simp only [Act.put, pB, pC, pD]
    refine kt 10 (bl 26 2047) rfl (fun w' hR => by have x0 := hne w'; go_simp; first | done | with_reducible rfl) rfl ?_
    try simp only [Act.put, pB, pC, pD]
    refine kt 11 (bl 26 4095) rfl (fun w' hR => by go_simp; first | done | with_reducible rfl) rfl ?_
    try simp only [Act.put, pB, pC, pD]
    refine kt 12 (bl 26 8191) rfl (fun w' hR => by go_simp; first | done | with_reducible rfl) rfl ?_
    try simp only [Act.put, pB, pC, pD]
    refine kt 13 (bl 26 16383) rfl (fun w' hR => by go_simp; first | done | with_reducible rfl) rfl ?_
    try simp only [Act.put, pB, pC, pD]
    refine kt 14 (bl 26 32767) rfl (fun w' hR => by go_simp; first | done | with_reducible rfl) rfl ?_
    try simp only [Act.put, pB, pC, pD]
    refine kt 15 (bl 26 65535) rfl (fun w' hR => by go_simp; first | done | with_reducible rfl) rfl ?_
    try simp only [Act.put, pB, pC, pD]
    refine kt 16 (bl 26 131071) rfl (fun w' hR => by obtain ⟨⟨x0, x1, x2, x3, x4⟩, y0, y1, y2, y3, y4⟩ := HBX.out w' (HBK.out w' hR); go_simp; first | done | with_reducible rfl) rfl ?_
    try simp only [Act.put, pB, pC, pD]
    refine kt 17 (bl 26 262143) rfl (fun w' hR => by go_simp; first | done | with_reducible rfl) rfl ?_
    try simp only [Act.put, pB, pC, pD]
    refine kt 18 (bl 26 524287) rfl (fun w' hR => by go_simp; first | done | with_reducible rfl) rfl ?_
    try simp only [Act.put, pB, pC, pD]
    refine kt 19 (bl 26 1048575) rfl (fun w' hR => by go_simp; first | done | with_reducible rfl) rfl ?_
    try simp only [Act.put, pB, pC, pD]
    refine kt 20 (bl 26 2097151) rfl (fun w' hR => by go_simp; first | done | with_reducible rfl) rfl ?_
    try simp only [Act.put, pB, pC, pD]
    refine kt 21 (bl 26 4194303) rfl (fun w' hR => by go_simp; first | done | with_reducible rfl) rfl ?_
    try simp only [Act.put, pB, pC, pD]
    refine kt 22 (bl 26 8388607) rfl (fun w' hR => by obtain ⟨⟨x0, x1, x2, x3, x4⟩, y0, y1, y2, y3, y4⟩ := HBX.out w' (HBK.out w' hR); go_simp; first | done | with_reducible rfl) rfl ?_
    try simp only [Act.put, pB, pC, pD]
    refine kt 23 (bl 26 16777215) rfl (fun w' hR => by go_simp; first | done | with_reducible rfl) rfl ?_
    try simp only [Act.put, pB, pC, pD]
    refine kt 24 (bl 26 33554431) rfl (fun w' hR => by go_simp; first | done | with_reducible rfl) rfl ?_
    try simp only [Act.put, pB, pC, pD]
    refine kt 25 (bl 26 67108863) rfl (fun w' hR => by go_simp; first | done | with_reducible rfl) rfl ?_
    try simp only [Act.put, pB, pC, pD]
    refine rk_done (by kernel_rfl) ?_
    clear HBK hne
    go_wp2_with fail
    go_loopw [6] (fun vi wi => ∃ i : Nat, i ≤ is.length ∧ vi = .int .i64 i ∧ Aside0 (Below w.heap.size w wi)) (fun vi _ => is.length - (intOf vi).toNat)
    case atStart => exact ⟨0, by omega, rfl, ⟨HZ.out.drew⟩⟩
    case round =>
     obtain ⟨wi, hwi⟩ : ∃ wi, wi = wr := ⟨_, rfl⟩
     subst hwi
     obtain ⟨i, hi, rfl, HWB⟩ := hrel
     obtain ⟨⟨x0, x1, x2, x3, x4⟩, y0, y1, y2, y3, y4⟩ := HBX.out wi HWB.out
     by_cases hil : i < is.length
     · obtain ⟨⟨k1, op, d, a1, bb, nn, args⟩, hq⟩ : ∃ q, is[i]? = some q := ⟨_, List.getElem?_eq_getElem hil⟩
       obtain ⟨ad2, A2, n2, rfl, i0, i1, i2, i3, i4, i5, i6, hn2, hC2⟩ := ins_cells HC1.out hq
       obtain ⟨ad3, A3, n3, rfl, j0, j1, j2, j3, j4, j5, j6, hn3, hC3⟩ := ins_cells HC1'.out hq
       have HQA := aM hC2
       have HQB := aM hC3
       have HIX := aM (show ∀ W', Keep (fun i => wi.heap.size ≤ i) wi.drew W' → (W'.cell? (ad.add (j * 5)) = some (.slice (some ad2) is.length n1) ∧ W'.cell? (ad'.add (j * 5)) = some (.slice (some ad3) is.length n1')) ∧
        (W'.cell? (ad2.add (i * 7)) = some (.int .u8 k1) ∧ W'.cell? ⟨(ad2.add (i * 7)).block, (ad2.add (i * 7)).off + 1, none⟩ = some (.int .u8 op) ∧ W'.cell? ⟨(ad2.add (i * 7)).block, (ad2.add (i * 7)).off + 2, none⟩ = some (.int .i64 d) ∧ W'.cell? ⟨(ad2.add (i * 7)).block, (ad2.add (i * 7)).off + 3, none⟩ = some (.int .i64 a1) ∧ W'.cell? ⟨(ad2.add (i * 7)).block, (ad2.add (i * 7)).off + 4, none⟩ = some (.int .i64 bb) ∧ W'.cell? ⟨(ad2.add (i * 7)).block, (ad2.add (i * 7)).off + 5, none⟩ = some (.int .i64 nn) ∧ W'.cell? ⟨(ad2.add (i * 7)).block, (ad2.add (i * 7)).off + 6, none⟩ = some (.slice A2 args.length n2)) ∧
        W'.cell? (ad3.add (i * 7)) = some (.int .u8 k1) ∧ W'.cell? ⟨(ad3.add (i * 7)).block, (ad3.add (i * 7)).off + 1, none⟩ = some (.int .u8 op) ∧ W'.cell? ⟨(ad3.add (i * 7)).block, (ad3.add (i * 7)).off + 2, none⟩ = some (.int .i64 d) ∧ W'.cell? ⟨(ad3.add (i * 7)).block, (ad3.add (i * 7)).off + 3, none⟩ = some (.int .i64 a1) ∧ W'.cell? ⟨(ad3.add (i * 7)).block, (ad3.add (i * 7)).off + 4, none⟩ = some (.int .i64 bb) ∧ W'.cell? ⟨(ad3.add (i * 7)).block, (ad3.add (i * 7)).off + 5, none⟩ = some (.int .i64 nn) ∧ W'.cell? ⟨(ad3.add (i * 7)).block, (ad3.add (i * 7)).off + 6, none⟩ = some (.slice A3 args.length n3) from fun W' h => by
        have hb : Below w.heap.size w W' := Keep.below_then HWB.out.drew h HWB.out.size (fun i h1 h2 => by have := HWB.out.size; omega)
        obtain ⟨⟨x0, x1, x2, x3, x4⟩, y0, y1, y2, y3, y4⟩ := HBX.out W' hb
        exact ⟨⟨x0, y0⟩, ⟨pw_cell_below hb i0, pw_cell_below hb i1, pw_cell_below hb i2, pw_cell_below hb i3, pw_cell_below hb i4, pw_cell_below hb i5, pw_cell_below hb i6⟩, pw_cell_below hb j0, pw_cell_below hb j1, pw_cell_below hb j2, pw_cell_below hb j3, pw_cell_below hb j4, pw_cell_below hb j5, pw_cell_below hb j6⟩)
       have HCUR := aM (Keep.refl (fun i => wi.heap.size ≤ i) wi.drew)
       clear hq hC2 hC3 i0 i1 i2 i3 i4 i5 i6 j0 j1 j2 j3 j4 j5 j6
       go_wp2_with fail
       clear x0 x1 x2 x3 x4 y0 y1 y2 y3 y4
       refine re_start [] (fun i => wi.heap.size ≤ i) (by kernel_rfl) (n := 20) (l := (bl 20 0)) (by kernel_rfl) (by kernel_rfl) ?_
       refine et 0 (bl 20 1) rfl (fun w' hR => by go_simp; first | done | with_reducible rfl) rfl ?_
       try simp only [Act.put, pB, pC, pD]
       refine et 1 (bl 20 3) rfl (fun w' hR => by go_simp; first | done | with_reducible rfl) rfl ?_
       try simp only [Act.put, pB, pC, pD]
       refine et 2 (bl 20 7) rfl (fun w' hR => by go_simp; first | done | with_reducible rfl) rfl ?_
       try simp only [Act.put, pB, pC, pD]
       refine et 3 (bl 20 15) rfl (fun w' hR => by go_simp; first | done | with_reducible rfl) rfl ?_
       try simp only [Act.put, pB, pC, pD]
       refine et 4 (bl 20 31) rfl (fun w' hR => by obtain ⟨⟨x0, y0⟩, -, -⟩ := HIX.out w' hR; go_simp; first | done | with_reducible rfl) rfl ?_
       try simp only [Act.put, pB, pC, pD]
       refine et 5 (bl 20 63) rfl (fun w' hR => by go_simp; first | done | with_reducible rfl) rfl ?_
       try simp only [Act.put, pB, pC, pD]
       refine et 6 (bl 20 127) rfl (fun w' hR => by go_simp; first | done | with_reducible rfl) rfl ?_
       try simp only [Act.put, pB, pC, pD]
       refine et 7 (bl 20 255) rfl (fun w' hR => by obtain ⟨-, ⟨x0, x1, x2, x3, x4, x5, x6⟩, -⟩ := HIX.out w' hR; go_simp; first | done | with_reducible rfl) rfl ?_
       try simp only [Act.put, pB, pC, pD]
       refine et 8 (bl 20 511) rfl (fun w' hR => by go_simp; first | done | with_reducible rfl) rfl ?_
       try simp only [Act.put, pB, pC, pD]
       refine et 9 (bl 20 1023) rfl (fun w' hR => by go_simp; first | done | with_reducible rfl) rfl ?_
       try simp only [Act.put, pB, pC, pD]
       refine et 10 (bl 20 2047) rfl (fun w' hR => by go_simp; first | done | with_reducible rfl) rfl ?_
       try simp only [Act.put, pB, pC, pD]
       refine et 11 (bl 20 4095) rfl (fun w' hR => by go_simp; first | done | with_reducible rfl) rfl ?_
       try simp only [Act.put, pB, pC, pD]
       refine et 12 (bl 20 8191) rfl (fun w' hR => by obtain ⟨⟨x0, y0⟩, -, -⟩ := HIX.out w' hR; go_simp; first | done | with_reducible rfl) rfl ?_
       try simp only [Act.put, pB, pC, pD]
       refine et 13 (bl 20 16383) rfl (fun w' hR => by go_simp; first | done | with_reducible rfl) rfl ?_
       try simp only [Act.put, pB, pC, pD]
       refine et 14 (bl 20 32767) rfl (fun w' hR => by go_simp; first | done | with_reducible rfl) rfl ?_
       try simp only [Act.put, pB, pC, pD]
       refine et 15 (bl 20 65535) rfl (fun w' hR => by obtain ⟨-, -, x0, x1, x2, x3, x4, x5, x6⟩ := HIX.out w' hR; go_simp; first | done | with_reducible rfl) rfl ?_
       try simp only [Act.put, pB, pC, pD]
       refine re_fork (fuel := 3) 16 17 rfl rfl (by kernel_rfl) (by kernel_rfl) (by kernel_rfl) (listed1 := (bl 20 131071)) (listed2 := (bl 20 196607)) (by kernel_rfl) (by kernel_rfl) (fun K' hK => ?_) (fun K' hK => ?_)
       · (go_wp2_with fail)
         refine hK.out _ _ (by (first | exact keep_alloc _ _ | exact keep_drew2 (keep_alloc _ _))) ?_
         clear hK K'
         try simp only [Act.put, pB, pC, pD]
         refine re_step (fuel := 2) 17 rfl (by kernel_rfl) (listed' := (bl 20 262143)) (by kernel_rfl) (by kernel_rfl) (fun K' hK => ?_)
         (go_wp2_with fail)
         refine hK.out _ _ (by (first | exact keep_alloc _ _ | exact keep_drew2 (keep_alloc _ _))) ?_
         clear hK K'
         try simp only [Act.put, pB, pC, pD]
         refine re_step (fuel := 1) 18 rfl (by kernel_rfl) (listed' := (bl 20 524287)) (by kernel_rfl) (by kernel_rfl) (fun K' hK => ?_)
         (go_wp2_with fail)
         refine hK.out _ _ (by (first | exact keep2 (Nat.le_refl _) _ _ _ _ | exact keep_drew2 (keep2 (Nat.le_refl _) _ _ _ _) | (refine keep_drew2 (keep2 ?_ _ _ _ _); exact Nat.le_refl _))) ?_
         clear hK K'
         try simp only [Act.put, pB, pC, pD]
         refine re_step (fuel := 0) 19 rfl (by kernel_rfl) (listed' := (bl 20 1048575)) (by kernel_rfl) (by kernel_rfl) (fun K' hK => ?_)
         (go_wp2_with fail)
         refine hK.out _ _ (by (first | exact keep2 (Nat.le_refl _) _ _ _ _ | exact keep_drew2 (keep2 (Nat.le_refl _) _ _ _ _) | (refine keep_drew2 (keep2 ?_ _ _ _ _); exact Nat.le_refl _))) ?_
         clear hK K'
         try simp only [Act.put, pB, pC, pD]
         refine re_done (by kernel_rfl) ?_
         go_wp2_with (go_at_call 117; refine (same_ints args args A2 A3 n2 n3 _ (Kd.C_below HQA.out (by (exact ((HWB.out.alloc HWB.out.size _).alloc (by rw [World.size_alloc]; have := HWB.out.size; omega) _).drew))) (Kd.C_below HQB.out (by (exact ((HWB.out.alloc HWB.out.size _).alloc (by rw [World.size_alloc]; have := HWB.out.size; omega) _).drew)))).mono ?_; rintro _ w7 ⟨rfl, hb⟩; have HW7 : Aside0 (Below w.heap.size w w7) := ⟨Below.trans (by (exact ((HWB.out.alloc HWB.out.size _).alloc (by rw [World.size_alloc]; have := HWB.out.size; omega) _).drew)) (Below.mono hb (Below.size (by (exact ((HWB.out.alloc HWB.out.size _).alloc (by rw [World.size_alloc]; have := HWB.out.size; omega) _).drew))))⟩; clear hb)
         go_roundw
         (case rel => exact ⟨i + 1, by omega, by go_num, HW7⟩)
         (case measure => simp [intOf]; omega)
       · (go_wp2_with fail)
         refine hK.out _ _ (by (first | exact keep_alloc _ _ | exact keep_drew2 (keep_alloc _ _))) ?_
         clear hK K'
         try simp only [Act.put, pB, pC, pD]
         refine re_step (fuel := 2) 16 rfl (by kernel_rfl) (listed' := (bl 20 262143)) (by kernel_rfl) (by kernel_rfl) (fun K' hK => ?_)
         (go_wp2_with fail)
         refine hK.out _ _ (by (first | exact keep_alloc _ _ | exact keep_drew2 (keep_alloc _ _))) ?_
         clear hK K'
         try simp only [Act.put, pB, pC, pD]
         refine re_step (fuel := 1) 18 rfl (by kernel_rfl) (listed' := (bl 20 524287)) (by kernel_rfl) (by kernel_rfl) (fun K' hK => ?_)
         (go_wp2_with fail)
         refine hK.out _ _ (by (first | exact keep2 (Nat.le_refl _) _ _ _ _ | exact keep_drew2 (keep2 (Nat.le_refl _) _ _ _ _) | (refine keep_drew2 (keep2 ?_ _ _ _ _); exact Nat.le_refl _))) ?_
         clear hK K'
         try simp only [Act.put, pB, pC, pD]
         refine re_step (fuel := 0) 19 rfl (by kernel_rfl) (listed' := (bl 20 1048575)) (by kernel_rfl) (by kernel_rfl) (fun K' hK => ?_)
         (go_wp2_with fail)
         refine hK.out _ _ (by (first | exact keep2 (Nat.le_refl _) _ _ _ _ | exact keep_drew2 (keep2 (Nat.le_refl _) _ _ _ _) | (refine keep_drew2 (keep2 ?_ _ _ _ _); exact Nat.le_refl _))) ?_
         clear hK K'
         try simp only [Act.put, pB, pC, pD]
         refine re_done (by kernel_rfl) ?_
         go_wp2_with (go_at_call 117; refine (same_ints args args A2 A3 n2 n3 _ (Kd.C_below HQA.out (by (exact ((HWB.out.alloc HWB.out.size _).alloc (by rw [World.size_alloc]; have := HWB.out.size; omega) _).drew))) (Kd.C_below HQB.out (by (exact ((HWB.out.alloc HWB.out.size _).alloc (by rw [World.size_alloc]; have := HWB.out.size; omega) _).drew)))).mono ?_; rintro _ w7 ⟨rfl, hb⟩; have HW7 : Aside0 (Below w.heap.size w w7) := ⟨Below.trans (by (exact ((HWB.out.alloc HWB.out.size _).alloc (by rw [World.size_alloc]; have := HWB.out.size; omega) _).drew)) (Below.mono hb (Below.size (by (exact ((HWB.out.alloc HWB.out.size _).alloc (by rw [World.size_alloc]; have := HWB.out.size; omega) _).drew))))⟩; clear hb)
         go_roundw
         (case rel => exact ⟨i + 1, by omega, by go_num, HW7⟩)
         (case measure => simp [intOf]; omega)
     · obtain rfl : i = is.length := by omega
       go_wp2
       go_roundw
       case rel => exact ⟨j + 1, by omega, by go_num, HWB⟩
       case measure => simp [intOf]; omega
  · obtain rfl : j = l.length := by omega
    go_wp2
    go_ret
    exact ⟨rfl, HZ.out⟩
set_option maxHeartbeats 4000000 in
set_option maxRecDepth 100000 in
theorem same_funcs (p v : Int) (l : List Blk) (n : Nat) (hn : l.length = n) (A B : Option Addr) (c e : Nat) (w : World) (hA : kBlk.C w A n l) (hB : kBlk.C w B n l) :
 Calls Try.prog 34 #[.agg #[.int .i64 p, .int .i64 v, .slice A n c], .agg #[.int .i64 p, .int .i64 v, .slice B n e]] w fun r w' => r = .returned (.bool true) ∧ Below w.heap.size w w' := by
 have mixed : Try.prog.follows .mixedOrders = true := by kernel_rfl
 have HA := aM hA
 have HB := aM hB
 have HN := aM hn
 clear hA hB hn
 have HWF := aM (show Below w.heap.size w ((w.alloc (.cells #[.int .i64 p, .int .i64 v, .slice A n c] 25)).alloc (.cells #[.int .i64 p, .int .i64 v, .slice B n e] 25)) from ((Below.refl _ _).alloc (Nat.le_refl _) _).alloc (by rw [World.size_alloc]; omega) _)
 go_enter Try.func34, Try.ntmps34
 go_wp2_with (go_at_call 84; refine (same_blocks l n HN.out A B c e _ (Kd.C_below HA.out HWF.out) (Kd.C_below HB.out HWF.out)).mono ?_; rintro _ w7 ⟨rfl, hb⟩; have HW7 := aM (HWF.out.trans (hb.mono HWF.out.size)); clear hb)
 go_ret
 exact ⟨rfl, HW7.out⟩
end Go.Proofs.Ytnckonglodmfeaa.Ik
namespace Go.Proofs.Ytnckonglodmfeaa.Ik
open Ls Lc Go.RowKit Go.Proofs.YtnckonglodmfeaaW.PrintWords Go.Proofs.YtnckonglodmfeaaW.PrintLast Go.Proofs.YtnckonglodmfeaaW.PrintMore B R S Is Js Gs Gc
set_option maxHeartbeats 4000000 in
set_option maxRecDepth 100000 in
theorem same_asks (j n r p v : Int) (l : List Blk) (n0 : Nat) (hn : l.length = n0) (A B : Option Addr) (c e : Nat) (w : World) (hA : kBlk.C w A n0 l) (hB : kBlk.C w B n0 l) :
 Calls Try.prog 20 #[.agg #[.int .i64 j, .int .u64 n, .int .i64 r, .int .i64 p, .int .i64 v, .slice A n0 c], .agg #[.int .i64 j, .int .u64 n, .int .i64 r, .int .i64 p, .int .i64 v, .slice B n0 e]] w fun r w' => r = .returned (.bool true) ∧ Below w.heap.size w w' := by
 have mixed : Try.prog.follows .mixedOrders = true := by kernel_rfl
 have HA := aM hA
 have HB := aM hB
 have HN := aM hn
 clear hA hB hn
 have HWF := aM (show Below w.heap.size w ((w.alloc (.cells #[.int .i64 j, .int .u64 n, .int .i64 r, .int .i64 p, .int .i64 v, .slice A n0 c] 27)).alloc (.cells #[.int .i64 j, .int .u64 n, .int .i64 r, .int .i64 p, .int .i64 v, .slice B n0 e] 27)) from ((Below.refl _ _).alloc (Nat.le_refl _) _).alloc (by rw [World.size_alloc]; omega) _)
 go_enter Try.func20, Try.ntmps20
 go_wp2_with (go_at_call 34; refine (same_funcs p v l n0 HN.out A B c e _ (Kd.C_below HA.out HWF.out) (Kd.C_below HB.out HWF.out)).mono ?_; rintro _ w7 ⟨rfl, hb⟩; have HW7 := aM (HWF.out.trans (hb.mono HWF.out.size)); clear hb)
 go_ret
 exact ⟨rfl, HW7.out⟩
abbrev awB : Blk := ([], 3, 0, 0, 0)
theorem aw_body : askB (3, 7, 4, 0, 1, [awB]) = [3, 7, 4, 0, 1, 1, 0, 3, 0] := by
 have f : ∀ x : Int, 0 ≤ x → x < 128 → fieldL x = [x] := fun x h0 h1 => by
  rw [fieldL, wrU64 x h0 (by omega), putl_lt (by omega)]
  rw [Int.toNat_of_nonneg h0]
 have e7 : putl 7 = [7] := by rw [putl_lt (by decide)]; rfl
 simp [askB, funcL, blksL, blkL, endL, fieldsL, f, e7]
theorem aw_read : readAsk (askL (3, 7, 4, 0, 1, [awB])) = ((3, 7, 4, 0, 1, [awB]), 0) := by
 have ht : takeL (askL (3, 7, 4, 0, 1, [awB])) = (2, [3, 7, 4, 0, 1, 1, 0, 3, 0], ((askL (3, 7, 4, 0, 1, [awB])).length : Int), 0) := by
  have h := take_lay (k := 2) (b := askB (3, 7, 4, 0, 1, [awB])) (rest := []) (by rw [aw_body]; decide)
  rw [List.append_nil] at h
  rw [← aw_body]
  exact h
 have ho : openL 2 (askL (3, 7, 4, 0, 1, [awB])) = ([3, 7, 4, 0, 1, 1, 0, 3, 0], 0) := by
  rw [open_eq rfl ht]
  simp
 have h1 : sBelow 16 ([3, 7, 4, 0, 1, 1, 0, 3, 0], 0) = (3, ([7, 4, 0, 1, 1, 0, 3, 0], 0)) := by kernel_rfl
 have h2 : num [7, 4, 0, 1, 1, 0, 3, 0] 0 = (7, ([4, 0, 1, 1, 0, 3, 0], 0)) := by kernel_rfl
 have h3 : sBelow 9 ([4, 0, 1, 1, 0, 3, 0], 0) = (4, ([0, 1, 1, 0, 3, 0], 0)) := by kernel_rfl
 have hf : sFun [0, 1, 1, 0, 3, 0] = ((0, 1, [awB]), 0) := by kernel_rfl
 rw [readAsk_eq ho h1 h2 h3 hf]
 rfl
theorem aw_C (w : World) (e : Nat) : kBlk.C (w.alloc (.cells #[.slice none 0 0, .int .u8 3, .int .i64 0, .int .i64 0, .int .i64 0] e)) (some ⟨w.heap.size, 0, none⟩) 1 [awB] := by
 refine ⟨rfl, by decide, fun _ => ⟨_, rfl, fun j p hj => ?_⟩⟩
 obtain ⟨rfl, rfl⟩ : j = 0 ∧ p = awB := by
  rcases j with _ | j
  · exact ⟨rfl, by simpa using hj.symm⟩
  · simp at hj
 refine ⟨[.slice none 0 0, .int .u8 3, .int .i64 0, .int .i64 0, .int .i64 0], rfl, ⟨[.slice none 0 0], _, rfl, ⟨none, 0, rfl, Nat.le_refl _, ⟨rfl, by decide, fun h => absurd h (by decide)⟩⟩, [.int .u8 3], _, rfl, rfl, [.int .i64 0], _, rfl, rfl, [.int .i64 0], _, rfl, rfl, rfl⟩, fun i u hu => ?_⟩
 have hadd : (⟨w.heap.size, 0, none⟩ : Addr).add (0 * kBlk.sz + i) = ⟨w.heap.size, i, none⟩ := by unfold Addr.add; split <;> simp_all
 rw [hadd]
 exact cell_at (heap_alloc_new _ _) i u (by simpa using hu)
theorem aw_R : ∀ b ∈ [awB], BlkR b := by
 intro b hb
 rw [List.mem_singleton] at hb
 subst hb
 refine ⟨(fun i hi => by cases hi), ?_⟩
 simp only [EndR, U8, I64]
 decide
theorem aw_err : askErr (3, 7, 4, 0, 1, [awB]) = 0 := by kernel_rfl
set_option maxHeartbeats 4000000 in
set_option maxRecDepth 100000 in
theorem awake_asks (w : World) : Calls Try.prog 10 #[] w fun e w' => e = .returned (.bool true) ∧ Below w.heap.size w w' := by
 have mixed : Try.prog.follows .mixedOrders = true := by kernel_rfl
 obtain ⟨fl, hfl⟩ : ∃ fl, askL (3, 7, 4, 0, 1, [awB]) = fl := ⟨_, rfl⟩
 obtain ⟨nf, hnf⟩ : ∃ nf, fl.length = nf := ⟨_, rfl⟩
 have hnl : nf ≤ 20 := by
  rw [← hnf, ← hfl, askL, lay_len, aw_body]
  have := (putl_three (n := 9) (by decide)).2
  rw [show ([3, 7, 4, 0, 1, 1, 0, 3, 0] : List Int).length = 9 from rfl]
  omega
 have hrd := aw_read
 rw [hfl] at hrd
 have HFL := aM hfl
 have HNF := aM hnf
 have HRD := aM hrd
 have HBY := aM (show By fl from by rw [← hfl]; exact lay_by (by decide) (ask_byB _))
 have hs1 : (w.alloc (.cells #[.slice none 0 0, .int .u8 3, .int .i64 0, .int .i64 0, .int .i64 0] 84)).heap.size = w.heap.size + 1 := World.size_alloc _ _
 have hs2 : (World.alloc (w.alloc (.cells #[.slice none 0 0, .int .u8 3, .int .i64 0, .int .i64 0, .int .i64 0] 84)) (.cells #[.int .i64 0, .int .i64 1, .slice (some ⟨w.heap.size, 0, none⟩) 1 1] 25)).heap.size = w.heap.size + 2 := by rw [World.size_alloc, hs1]
 have HS2 := aM hs2
 have HC := aM (show kBlk.C (World.alloc (w.alloc (.cells #[.slice none 0 0, .int .u8 3, .int .i64 0, .int .i64 0, .int .i64 0] 84)) (.cells #[.int .i64 0, .int .i64 1, .slice (some ⟨w.heap.size, 0, none⟩) 1 1] 25)) (some ⟨w.heap.size, 0, none⟩) 1 [awB] from Kd.C_alloc (aw_C w 84) _)
 have HW := aM (show Below w.heap.size w (World.alloc (w.alloc (.cells #[.slice none 0 0, .int .u8 3, .int .i64 0, .int .i64 0, .int .i64 0] 84)) (.cells #[.int .i64 0, .int .i64 1, .slice (some ⟨w.heap.size, 0, none⟩) 1 1] 25)) from ((Below.refl _ _).alloc (Nat.le_refl _) _).alloc (by rw [hs1]; omega) _)
 have HX := aM (show ∀ W', Below (w.heap.size + 2) (World.alloc (w.alloc (.cells #[.slice none 0 0, .int .u8 3, .int .i64 0, .int .i64 0, .int .i64 0] 84)) (.cells #[.int .i64 0, .int .i64 1, .slice (some ⟨w.heap.size, 0, none⟩) 1 1] 25)) W' → W'.cell? ⟨w.heap.size + 1, 0, none⟩ = some (.int .i64 0) ∧ W'.cell? ⟨w.heap.size + 1, 1, none⟩ = some (.int .i64 1) ∧ W'.cell? ⟨w.heap.size + 1, 2, none⟩ = some (.slice (some ⟨w.heap.size, 0, none⟩) 1 1) from fun W' h => by
  obtain ⟨g, g'⟩ := two_cells h
  exact ⟨cell_at g' 0 _ rfl, cell_at g' 1 _ rfl, cell_at g' 2 _ rfl⟩)
 clear hfl hnf hrd hs1 hs2
 go_enter Try.func10, Try.ntmps10
 go_upto_region 3 with (go_at_call 13; refine (putask_calls 3 7 4 0 1 [awB] (some ⟨w.heap.size, 0, none⟩) 1 _ (by decide) (by decide) HC.out aw_R (by decide)).mono ?_; rintro _ w3 ⟨hr, hb⟩; obtain ⟨A3, c3, rfl, hl3, hC3⟩ := hr.2 aw_err; rw [HFL.out, HNF.out] at hl3 hC3 ⊢; have HC3 := aM hC3; have HB3 := aM (show Below (w.heap.size + 2) (World.alloc (w.alloc (.cells #[.slice none 0 0, .int .u8 3, .int .i64 0, .int .i64 0, .int .i64 0] 84)) (.cells #[.int .i64 0, .int .i64 1, .slice (some ⟨w.heap.size, 0, none⟩) 1 1] 25)) w3 from hb.mono (by rw [HS2.out]; exact Nat.le_refl _)); clear hr hb hC3)
 go_upto_region 4 with (go_at_call 18; refine (takeask_calls A3 c3 fl nf HNF.out _ HC3.out hl3 HBY.out (by omega)).mono ?_; rintro _ w4 ⟨hr, hb⟩; rw [HRD.out] at hr; obtain ⟨j, n, r, p, v, vb, bs, rfl, hR, hx⟩ := hr; simp only [Prod.mk.injEq] at hx; obtain ⟨rfl, rfl, rfl, rfl, rfl, rfl⟩ := hx; obtain ⟨Ab, cb, rfl, -, hCb⟩ := Kd.R_reads hR; rw [show [awB].length = 1 from rfl] at hCb ⊢; have HCb := aM hCb; have HB4 := aM (HB3.out.trans (hb.mono (by have := HB3.out.size; rw [HS2.out] at this; exact this))); clear hR hCb hb)
 have hz4 : w.heap.size + 2 ≤ w4.heap.size := by have := HB4.out.size; rw [HS2.out] at this; exact this
 have HB5 := aM (HB4.out.alloc hz4 (.cells #[.int .i64 3, .int .u64 7, .int .i64 4, .int .i64 0, .int .i64 1, .slice Ab 1 cb] 27))
 obtain ⟨y0, y1, y2⟩ := HX.out _ HB5.out
 go_wp2_with (go_at_call 34; refine (same_funcs 0 1 [awB] 1 rfl Ab (some ⟨w.heap.size, 0, none⟩) cb 1 _ (Kd.C_alloc HCb.out _) (Kd.C_alloc (Kd.C_below HC.out (HB4.out.mono (by rw [HS2.out]; exact Nat.le_refl _))) _)).mono ?_; rintro _ w7 ⟨rfl, hb⟩; have HW7 := aM ((HW.out.trans (HB5.out.mono (by omega))).trans (hb.mono (HW.out.trans (HB5.out.mono (by omega))).size)); clear hb)
 go_ret
 exact ⟨rfl, HW7.out⟩
end Go.Proofs.Ytnckonglodmfeaa.Ik
namespace Go.Proofs.Ytnckonglodmfeaa.Ik
open Ls Lc Go.RowKit Go.Proofs.YtnckonglodmfeaaW.PrintWords Go.Proofs.YtnckonglodmfeaaW.PrintLast Go.Proofs.YtnckonglodmfeaaW.PrintMore B R S Is
theorem size_set' (W : World) (p : Addr) (u : Value) : (W.setCell p u).heap.size = W.heap.size := by simp [World.setCell]
def Mkr (w0 w : World) (g : Nat) : Prop := ∃ (A : Option Addr) (c : Nat) (l : List Int), w.heap[g]? = some (.cells #[.slice A l.length c] 98 (0, 0)) ∧ kU8.C w0 A l.length l ∧ l.length ≤ c ∧ By l
theorem Mkr.keep {w0 w w' : World} {g : Nat} {S : Nat → Prop} (h : Mkr w0 w g) (hk : Keep S w w') (hg : ¬ S g) : Mkr w0 w' g := by
 obtain ⟨A, c, l, h1, h2⟩ := h
 exact ⟨A, c, l, (hk.block g (blk_lt h1) hg).trans h1, h2⟩
theorem Mkr.lt {w0 w : World} {g : Nat} (h : Mkr w0 w g) : g < w.heap.size := by
 obtain ⟨A, c, l, h1, -⟩ := h
 exact blk_lt h1
set_option maxHeartbeats 1000000 in
set_option maxRecDepth 100000 in
theorem next_calls (w0 w : World) (g : Nat) (n : Int) (h : Mkr w0 w g) (hb : Below w0.heap.size w0 w) (hg : w0.heap.size ≤ g) (hn : 1 ≤ n) (hn2 : n ≤ 1000000) :
 Calls Try.prog 35 #[.pointer (some ⟨g, 0, none⟩), .int .i64 n] w fun e w' => ∃ x, e = .returned (.int .i64 x) ∧ 0 ≤ x ∧ x < n ∧ Mkr w0 w' g ∧ Keep (· = g) w w' ∧ w'.heap.size = w.heap.size := by
 have mixed : Try.prog.follows .mixedOrders = true := by kernel_rfl
 obtain ⟨A, c, l, h1, h2, h3, h4⟩ := h
 have q0 := cell_at h1 0 _ rfl
 have z0 := blk_frozen h1 0
 have HH := aM h1
 have HC := aM (Kd.C_below h2 hb)
 have HC0 := aM h2
 have HL := aM h3
 have HY := aM h4
 cases l with
 | nil =>
  clear h1 h2 h3 h4
  go_enter Try.func35, Try.ntmps35
  go_wp2
  go_ret
  exact ⟨0, rfl, by omega, by omega, ⟨A, c, [], HH.out, HC0.out, HL.out, HY.out⟩, Keep.refl _ _, rfl⟩
 | cons b l =>
  obtain ⟨ad, rfl⟩ := C_some h2 (by simp)
  have hc := C_cell HC.out (j := 0) (x := b) rfl
  have h0 : ad.add 0 = ad := by
   obtain ⟨bl, off, f⟩ := ad
   unfold Addr.add
   split <;> simp_all
  rw [h0] at hc
  have hb0 := h4 b (by simp)
  clear h0
  have HN := aM (show 0 ≤ b.tmod n ∧ b.tmod n < n from tmod_range hb0.1 (by omega))
  have hnz : (n = 0) = False := by simp; omega
  have hw : IntKind.i64.wrap b = b := wrI64 b (by omega) (by omega)
  obtain ⟨i0, hi0, -, hsz, -⟩ := info_ex Lc.infoU8
  obtain ⟨A', hrun, hCd, -, hlen⟩ := sl_from (d := kU8) (P := Try.prog) 28 5 .i64 Try.underlying28 hi0 (some ad) c (b :: l) hsz 1 (by decide) (by simp; omega) h3
  have hdr : ((b :: l).drop (1 : Int).toNat) = l := rfl
  rw [hdr] at hrun hCd hlen
  have HCD := aM (hCd w0 h2)
  have HLN := aM hlen
  have hll : ((b :: l).length : Int) ≠ 0 := by simp only [List.length_cons]; omega
  have hlb : (((b :: l).length : Int) == 0) = false := beq_eq_false_iff_ne.mpr hll
  have hlp : (0 : Int) < ((b :: l).length : Int) := by simp only [List.length_cons]; omega
  obtain ⟨N, hN⟩ : ∃ N, (b :: l).length = N := ⟨_, rfl⟩
  rw [hN] at hrun q0 hlb hlp
  have hlp' : 0 < N := by omega
  clear h1 h2 h3 h4 hCd hll hdr
  go_enter Try.func35, Try.ntmps35
  go_wp2
  go_ret
  have HN2 := HN.out
  rw [Int.tmod_eq_emod_of_nonneg hb0.1] at HN2
  exact ⟨b % n, rfl, HN2.1, HN2.2, ⟨A', c - 1, l, heap_setCell_same w g 0 _ _ _ HH.out, HCD.out, HLN.out, fun y hy => HY.out y (List.mem_cons_of_mem _ hy)⟩, (Keep.refl (· = g) w).setCell ⟨g, 0, none⟩ _ (fun _ => rfl), size_set' _ _ _⟩
--INS
structure MR (w0 wi W : World) (g gr : Nat) : Prop where
 mkr : Mkr w0 W g
 res : W.heap[gr]? = some (.cells #[.int .u8 0, .int .u8 0, .int .i64 0, .int .i64 0, .int .i64 0, .int .i64 0, .slice none 0 0] 92 (0, 0))
 keep : Keep (· = g) wi W
 b0 : Below w0.heap.size w0 W
 hg0 : w0.heap.size ≤ g
 hg : g < gr
 hgr : wi.heap.size = gr
theorem MR.step {w0 wi W W' : World} {g gr : Nat} (h : MR w0 wi W g gr) (hk : Keep (fun i => i = g ∨ gr < i) W W') (hm : Mkr w0 W' g) : MR w0 wi W' g gr := by
 have h1 := h.hg0
 have h2 := h.hg
 have h3 := h.hgr
 exact ⟨hm, (hk.block gr (blk_lt h.res) (fun e => by omega)).trans h.res, h.keep.then hk (fun i hi e => by omega), h.b0.trans (hk.below h.b0.size (fun i hi e => by omega)), h1, h2, h3⟩
theorem MR.rest {w0 wi W : World} {g gr : Nat} (h : MR w0 wi W g gr) : (W.cell? ⟨gr, 0, none⟩ = some (.int .u8 0) ∧ W.cell? ⟨gr, 1, none⟩ = some (.int .u8 0) ∧ W.cell? ⟨gr, 2, none⟩ = some (.int .i64 0) ∧ W.cell? ⟨gr, 3, none⟩ = some (.int .i64 0) ∧ W.cell? ⟨gr, 4, none⟩ = some (.int .i64 0) ∧ W.cell? ⟨gr, 5, none⟩ = some (.int .i64 0) ∧ W.cell? ⟨gr, 6, none⟩ = some (.slice none 0 0)) ∧ W.frozen? ⟨gr, 0, none⟩ = false ∧ W.frozen? ⟨gr, 1, none⟩ = false ∧ W.frozen? ⟨gr, 2, none⟩ = false ∧ W.frozen? ⟨gr, 3, none⟩ = false ∧ W.frozen? ⟨gr, 4, none⟩ = false ∧ W.frozen? ⟨gr, 5, none⟩ = false ∧ W.frozen? ⟨gr, 6, none⟩ = false :=
 ⟨⟨cell_at h.res 0 _ rfl, cell_at h.res 1 _ rfl, cell_at h.res 2 _ rfl, cell_at h.res 3 _ rfl, cell_at h.res 4 _ rfl, cell_at h.res 5 _ rfl, cell_at h.res 6 _ rfl⟩, blk_frozen h.res 0, blk_frozen h.res 1, blk_frozen h.res 2, blk_frozen h.res 3, blk_frozen h.res 4, blk_frozen h.res 5, blk_frozen h.res 6⟩
theorem mr_next {w0 wi W : World} {g gr : Nat} (h : MR w0 wi W g gr) (n : Int) (hn : 1 ≤ n) (hn2 : n ≤ 1000000) :
 Calls Try.prog 35 #[.pointer (some ⟨g, 0, none⟩), .int .i64 n] W fun e w' => ∃ x, e = .returned (.int .i64 x) ∧ 0 ≤ x ∧ x < n ∧ MR w0 wi w' g gr ∧ Keep (· = g) W w' := by
 refine (next_calls w0 W g n h.mkr h.b0 h.hg0 hn hn2).mono ?_
 rintro e w' ⟨x, h1, h2, h3, h4, h5, -⟩
 exact ⟨x, h1, h2, h3, h.step (h5.mono (fun i _ e => .inl e)) h4, h5⟩
structure MB (w0 wi W : World) (g gr gb : Nat) (F : Array Value) : Prop where
 m : MR w0 wi W g gr
 bx : W.heap[gb]? = some (.cells F 92 (0, 0))
 hgb : gr < gb
theorem MB.move {w0 wi W W' : World} {g gr gb : Nat} {F : Array Value} (h : MB w0 wi W g gr gb F) (hk : Keep (fun i => i = g ∨ gb < i) W.drew W') (hm : Mkr w0 W' g) : MB w0 wi W' g gr gb F := by
 have h1 := h.m.hg
 have h2 := h.hgb
 have hk' : Keep (fun i => i = g ∨ gb < i) W W' := (Keep.refl _ W).drew.trans hk
 exact ⟨h.m.step (hk'.mono (fun i _ e => e.imp id (fun e => by omega))) hm, (hk'.block gb (blk_lt h.bx) (fun e => by omega)).trans h.bx, h2⟩
theorem MB.set {w0 wi W : World} {g gr gb : Nat} {F : Array Value} (h : MB w0 wi W g gr gb F) (j : Nat) (x : Value) : MB w0 wi (W.setCell ⟨gb, j, none⟩ x) g gr gb (F.setIfInBounds j x) := by
 have h1 := h.m.hg
 have h2 := h.hgb
 have hk : Keep (· = gb) W (W.setCell ⟨gb, j, none⟩ x) := (Keep.refl _ _).setCell ⟨gb, j, none⟩ x (fun _ => rfl)
 exact ⟨h.m.step (hk.mono (fun i _ e => by have e : i = gb := e; omega)) (h.m.mkr.keep hk (by omega)), heap_setCell_same W gb j F _ _ h.bx, h2⟩
theorem mb_next {w0 wi W : World} {g gr gb : Nat} {F : Array Value} (h : MB w0 wi W g gr gb F) (n : Int) (hn : 1 ≤ n) (hn2 : n ≤ 1000000) :
 Calls Try.prog 35 #[.pointer (some ⟨g, 0, none⟩), .int .i64 n] W fun e w' => ∃ x, e = .returned (.int .i64 x) ∧ 0 ≤ x ∧ x < n ∧ MB w0 wi w' g gr gb F ∧ Keep (· = g) W w' := by
 refine (mr_next h.m n hn hn2).mono ?_
 rintro e w' ⟨x, h1, h2, h3, h4, h5⟩
 exact ⟨x, h1, h2, h3, ⟨h4, (h5.block gb (blk_lt h.bx) (fun e => by have e : gb = g := e; have := h.m.hg; have := h.hgb; omega)).trans h.bx, h.hgb⟩, h5⟩
theorem MR.out {w0 wi W : World} {g gr : Nat} (h : MR w0 wi W g gr) (x0 x1 x2 x3 x4 x5 x6 : Value) (W' : World) (e : W' = (((((((W.setCell ⟨gr, 0, none⟩ x0).setCell ⟨gr, 1, none⟩ x1).setCell ⟨gr, 2, none⟩ x2).setCell ⟨gr, 3, none⟩ x3).setCell ⟨gr, 4, none⟩ x4).setCell ⟨gr, 5, none⟩ x5).setCell ⟨gr, 6, none⟩ x6)) :
 Mkr w0 W' g ∧ Keep (· = g) wi W' ∧ Keep (· = gr) W W' := by
 have h1 := h.hg
 have h3 := h.hgr
 have hk := put7_far (W := W) (g := gr) x0 x1 x2 x3 x4 x5 x6
 subst e
 exact ⟨h.mkr.keep hk (by omega), h.keep.then hk (fun i hi e => by have e : i = gr := e; omega), hk⟩
def GoodI (v : Int) (i : Ins) : Prop := insErr v (-1) i = 0 ∧ InsR i ∧ i.2.2.2.2.2.2.length ≤ 3
theorem good_of {v k op d a b n : Int} {args : List Int} (hk : okK k op) (hp : plainB (k, op, d, a, b, n, args) = true) (hl : args.length ≤ 3) (ha : ∀ x ∈ allL (k, op, d, a, b, n, args), 0 ≤ x ∧ x < v) : insErr v (-1) (k, op, d, a, b, n, args) = 0 := by
 rw [ins_regs hk hp (by omega), if_neg]
 rw [Bool.not_eq_true, List.any_eq_false]
 intro x hx
 have := ha x hx
 simp only [outB, decide_eq_true_eq]
 omega
theorem good1 {v d n : Int} (h : 0 ≤ d ∧ d < v) (hv : v ≤ 512) (hn : I64 n) : GoodI v (1, 0, d, 0, 0, n, []) := by
 refine ⟨good_of (by simp [okK] <;> omega) (by simp [plainB]) (by simp) (fun x hx => ?_), ⟨⟨by decide, by decide⟩, ⟨by decide, by decide⟩, ⟨by omega, by omega⟩, ⟨by decide, by decide⟩, ⟨by decide, by decide⟩, hn, fun x hx => by cases hx⟩, by simp⟩
 have hx2 : x ∈ [d] := hx
 simp only [List.mem_cons, List.not_mem_nil, or_false] at hx2
 rcases hx2 with rfl <;> omega
theorem good2 {v d a : Int} (h : 0 ≤ d ∧ d < v) (ha : 0 ≤ a ∧ a < v) (hv : v ≤ 512) : GoodI v (2, 0, d, a, 0, 0, []) := by
 refine ⟨good_of (by simp [okK] <;> omega) (by simp [plainB]) (by simp) (fun x hx => ?_), ⟨⟨by decide, by decide⟩, ⟨by decide, by decide⟩, ⟨by omega, by omega⟩, ⟨by omega, by omega⟩, ⟨by decide, by decide⟩, ⟨by decide, by decide⟩, fun x hx => by cases hx⟩, by simp⟩
 have hx2 : x ∈ [a, d] := hx
 simp only [List.mem_cons, List.not_mem_nil, or_false] at hx2
 rcases hx2 with rfl | rfl <;> omega
theorem good4 {v d a : Int} (h : 0 ≤ d ∧ d < v) (ha : 0 ≤ a ∧ a < v) (hv : v ≤ 512) : GoodI v (4, 0, d, a, 0, 0, []) := by
 refine ⟨good_of (by simp [okK] <;> omega) (by simp [plainB]) (by simp) (fun x hx => ?_), ⟨⟨by decide, by decide⟩, ⟨by decide, by decide⟩, ⟨by omega, by omega⟩, ⟨by omega, by omega⟩, ⟨by decide, by decide⟩, ⟨by decide, by decide⟩, fun x hx => by cases hx⟩, by simp⟩
 have hx2 : x ∈ [a, d] := hx
 simp only [List.mem_cons, List.not_mem_nil, or_false] at hx2
 rcases hx2 with rfl | rfl <;> omega
theorem good5 {v a b : Int} (ha : 0 ≤ a ∧ a < v) (hb : 0 ≤ b ∧ b < v) (hv : v ≤ 512) : GoodI v (5, 0, 0, a, b, 0, []) := by
 refine ⟨good_of (by simp [okK] <;> omega) (by simp [plainB]) (by simp) (fun x hx => ?_), ⟨⟨by decide, by decide⟩, ⟨by decide, by decide⟩, ⟨by decide, by decide⟩, ⟨by omega, by omega⟩, ⟨by omega, by omega⟩, ⟨by decide, by decide⟩, fun x hx => by cases hx⟩, by simp⟩
 have hx2 : x ∈ [a, b] := hx
 simp only [List.mem_cons, List.not_mem_nil, or_false] at hx2
 rcases hx2 with rfl | rfl <;> omega
theorem good3 {v op d a b : Int} (ho : 1 ≤ op ∧ op ≤ 7) (h : 0 ≤ d ∧ d < v) (ha : 0 ≤ a ∧ a < v) (hb : 0 ≤ b ∧ b < v) (hv : v ≤ 512) : GoodI v (3, op, d, a, b, 0, []) := by
 refine ⟨good_of (by simp [okK] <;> omega) (by simp [plainB]) (by simp) (fun x hx => ?_), ⟨⟨by decide, by decide⟩, ⟨by omega, by omega⟩, ⟨by omega, by omega⟩, ⟨by omega, by omega⟩, ⟨by omega, by omega⟩, ⟨by decide, by decide⟩, fun x hx => by cases hx⟩, by simp⟩
 have hx2 : x ∈ [a, b, d] := hx
 simp only [List.mem_cons, List.not_mem_nil, or_false] at hx2
 rcases hx2 with rfl | rfl | rfl <;> omega
theorem good6 {v d n : Int} {args : List Int} (h : 0 ≤ d ∧ d < v) (hv : v ≤ 512) (hn : I64 n) (hl : args.length ≤ 3) (ha : ∀ x ∈ args, 0 ≤ x ∧ x < v) : GoodI v (6, 0, d, 0, 0, n, args) := by
 refine ⟨good_of (by simp [okK] <;> omega) (by simp [plainB]) hl (fun x hx => ?_), ⟨⟨by decide, by decide⟩, ⟨by decide, by decide⟩, ⟨by omega, by omega⟩, ⟨by decide, by decide⟩, ⟨by decide, by decide⟩, hn, fun x hx => ⟨by have := ha x hx; omega, by have := ha x hx; omega⟩⟩, hl⟩
 have hx2 : x ∈ args ++ [d] := hx
 rcases List.mem_append.1 hx2 with h1 | h1
 · exact ha x h1
 · rw [List.mem_singleton] at h1; omega
set_option maxHeartbeats 40000000 in
set_option maxRecDepth 100000 in
theorem mins_calls (w0 w : World) (g : Nat) (v : Int) (h : Mkr w0 w g) (hb : Below w0.heap.size w0 w) (hg : w0.heap.size ≤ g) (hv1 : 1 ≤ v) (hv2 : v ≤ 512) :
 Calls Try.prog 36 #[.pointer (some ⟨g, 0, none⟩), .int .i64 v] w fun e w' => ∃ i va, e = .returned (insVal i va) ∧ kI.R 3 w' w.heap.size (fun _ => True) va i.2.2.2.2.2.2 ∧ GoodI v i ∧ Mkr w0 w' g ∧ Keep (· = g) w w' := by
 have mixed : Try.prog.follows .mixedOrders = true := by kernel_rfl
 have hgl := h.lt
 have HI := aM (show MR w0 w (w.alloc (.cells #[.int .u8 0, .int .u8 0, .int .i64 0, .int .i64 0, .int .i64 0, .int .i64 0, .slice none 0 0] 92)) g w.heap.size from ⟨h.keep (Keep.of_below ((Below.refl _ _).alloc (Nat.le_refl _) _)) (S := fun _ => False) id, heap_alloc_new _ _, (Keep.refl _ _).alloc _, hb.alloc hb.size _, hg, hgl, rfl⟩)
 obtain ⟨WA, hWA⟩ : ∃ WA, WA = w.alloc (.cells #[.int .u8 0, .int .u8 0, .int .i64 0, .int .i64 0, .int .i64 0, .int .i64 0, .slice none 0 0] 92) := ⟨_, rfl⟩
 rw [← hWA] at HI
 have HWA := aM hWA
 clear h hb hWA
 go_enter Try.func36, Try.ntmps36
 go_upto_region 1 with fail
 rw [← HWA.out]
 obtain ⟨⟨y0, y1, y2, y3, y4, y5, y6⟩, v0, v1, v2, v3, v4, v5, v6⟩ := HI.out.rest
 go_upto_region 2 with (go_at_call 35; refine (mr_next HI.out _ (by omega) (by omega)).mono ?_; rintro _ w9 ⟨x, rfl, hx0, hx1, hi, -⟩; clear HI; (try clear y0 y1 y2 y3 y4 y5 y6 v0 v1 v2 v3 v4 v5 v6); have HI := aM hi; clear hi; (try (have hwx := wraps_u8' (1 + x) (by omega) (by omega))); obtain ⟨⟨y0, y1, y2, y3, y4, y5, y6⟩, v0, v1, v2, v3, v4, v5, v6⟩ := HI.out.rest)
 rcases (by omega : x = 0 ∨ x = 1 ∨ x = 2 ∨ x = 3 ∨ x = 4 ∨ x = 5 ∨ x = 6 ∨ x = 7 ∨ x = 8) with rfl | rfl | rfl | rfl | rfl | rfl | rfl | rfl | rfl
 · clear hx0 hx1
   go_wp2_with (go_at_call 35; refine (mr_next HI.out _ (by omega) (by omega)).mono ?_; rintro _ w9 ⟨x, rfl, hx0, hx1, hi, -⟩; clear HI; (try clear y0 y1 y2 y3 y4 y5 y6 v0 v1 v2 v3 v4 v5 v6); have HI := aM hi; clear hi; (try (have hwx := wraps_u8' (1 + x) (by omega) (by omega))); obtain ⟨⟨y0, y1, y2, y3, y4, y5, y6⟩, v0, v1, v2, v3, v4, v5, v6⟩ := HI.out.rest)
   have p := HI.out.res; have p0 := fun x0 x1 x2 x3 x4 x5 x6 => cell_at (put7 p x0 x1 x2 x3 x4 x5 x6) 0 _ rfl; have p1 := fun x0 x1 x2 x3 x4 x5 x6 => cell_at (put7 p x0 x1 x2 x3 x4 x5 x6) 1 _ rfl; have p2 := fun x0 x1 x2 x3 x4 x5 x6 => cell_at (put7 p x0 x1 x2 x3 x4 x5 x6) 2 _ rfl; have p3 := fun x0 x1 x2 x3 x4 x5 x6 => cell_at (put7 p x0 x1 x2 x3 x4 x5 x6) 3 _ rfl; have p4 := fun x0 x1 x2 x3 x4 x5 x6 => cell_at (put7 p x0 x1 x2 x3 x4 x5 x6) 4 _ rfl; have p5 := fun x0 x1 x2 x3 x4 x5 x6 => cell_at (put7 p x0 x1 x2 x3 x4 x5 x6) 5 _ rfl; have p6 := fun x0 x1 x2 x3 x4 x5 x6 => cell_at (put7 p x0 x1 x2 x3 x4 x5 x6) 6 _ rfl; (try simp only [Exit.inBlock, Exit.then]); refine bodyPost_ret (by simp [results, Try.results36, go_sem, p0, p1, p2, p3, p4, p5, p6]; try rfl) rfl ?_
   obtain ⟨o1, o2, -⟩ := HI.out.out _ _ _ _ _ _ _ _ rfl
   exact ⟨_, .slice none 0 0, rfl, Kd.R_nil _ _ _ _ _, good1 ⟨by assumption, by assumption⟩ hv2 ⟨by omega, by omega⟩, o1, o2⟩
 · clear hx0 hx1
   go_wp2_with (go_at_call 35; refine (mr_next HI.out _ (by omega) (by omega)).mono ?_; rintro _ w9 ⟨x, rfl, hx0, hx1, hi, -⟩; clear HI; (try clear y0 y1 y2 y3 y4 y5 y6 v0 v1 v2 v3 v4 v5 v6); have HI := aM hi; clear hi; (try (have hwx := wraps_u8' (1 + x) (by omega) (by omega))); obtain ⟨⟨y0, y1, y2, y3, y4, y5, y6⟩, v0, v1, v2, v3, v4, v5, v6⟩ := HI.out.rest)
   have p := HI.out.res; have p0 := fun x0 x1 x2 x3 x4 x5 x6 => cell_at (put7 p x0 x1 x2 x3 x4 x5 x6) 0 _ rfl; have p1 := fun x0 x1 x2 x3 x4 x5 x6 => cell_at (put7 p x0 x1 x2 x3 x4 x5 x6) 1 _ rfl; have p2 := fun x0 x1 x2 x3 x4 x5 x6 => cell_at (put7 p x0 x1 x2 x3 x4 x5 x6) 2 _ rfl; have p3 := fun x0 x1 x2 x3 x4 x5 x6 => cell_at (put7 p x0 x1 x2 x3 x4 x5 x6) 3 _ rfl; have p4 := fun x0 x1 x2 x3 x4 x5 x6 => cell_at (put7 p x0 x1 x2 x3 x4 x5 x6) 4 _ rfl; have p5 := fun x0 x1 x2 x3 x4 x5 x6 => cell_at (put7 p x0 x1 x2 x3 x4 x5 x6) 5 _ rfl; have p6 := fun x0 x1 x2 x3 x4 x5 x6 => cell_at (put7 p x0 x1 x2 x3 x4 x5 x6) 6 _ rfl; (try simp only [Exit.inBlock, Exit.then]); refine bodyPost_ret (by simp [results, Try.results36, go_sem, p0, p1, p2, p3, p4, p5, p6]; try rfl) rfl ?_
   obtain ⟨o1, o2, -⟩ := HI.out.out _ _ _ _ _ _ _ _ rfl
   exact ⟨_, .slice none 0 0, rfl, Kd.R_nil _ _ _ _ _, good2 ⟨by assumption, by assumption⟩ ⟨by assumption, by assumption⟩ hv2, o1, o2⟩
 · clear hx0 hx1
   go_wp2_with (go_at_call 35; refine (mr_next HI.out _ (by omega) (by omega)).mono ?_; rintro _ w9 ⟨x, rfl, hx0, hx1, hi, -⟩; clear HI; (try clear y0 y1 y2 y3 y4 y5 y6 v0 v1 v2 v3 v4 v5 v6); have HI := aM hi; clear hi; (try (have hwx := wraps_u8' (1 + x) (by omega) (by omega))); obtain ⟨⟨y0, y1, y2, y3, y4, y5, y6⟩, v0, v1, v2, v3, v4, v5, v6⟩ := HI.out.rest)
   have p := HI.out.res; have p0 := fun x0 x1 x2 x3 x4 x5 x6 => cell_at (put7 p x0 x1 x2 x3 x4 x5 x6) 0 _ rfl; have p1 := fun x0 x1 x2 x3 x4 x5 x6 => cell_at (put7 p x0 x1 x2 x3 x4 x5 x6) 1 _ rfl; have p2 := fun x0 x1 x2 x3 x4 x5 x6 => cell_at (put7 p x0 x1 x2 x3 x4 x5 x6) 2 _ rfl; have p3 := fun x0 x1 x2 x3 x4 x5 x6 => cell_at (put7 p x0 x1 x2 x3 x4 x5 x6) 3 _ rfl; have p4 := fun x0 x1 x2 x3 x4 x5 x6 => cell_at (put7 p x0 x1 x2 x3 x4 x5 x6) 4 _ rfl; have p5 := fun x0 x1 x2 x3 x4 x5 x6 => cell_at (put7 p x0 x1 x2 x3 x4 x5 x6) 5 _ rfl; have p6 := fun x0 x1 x2 x3 x4 x5 x6 => cell_at (put7 p x0 x1 x2 x3 x4 x5 x6) 6 _ rfl; (try simp only [Exit.inBlock, Exit.then]); refine bodyPost_ret (by simp [results, Try.results36, go_sem, p0, p1, p2, p3, p4, p5, p6]; try rfl) rfl ?_
   obtain ⟨o1, o2, -⟩ := HI.out.out _ _ _ _ _ _ _ _ rfl
   exact ⟨_, .slice none 0 0, rfl, Kd.R_nil _ _ _ _ _, good3 ⟨by omega, by omega⟩ ⟨by assumption, by assumption⟩ ⟨by assumption, by assumption⟩ ⟨by assumption, by assumption⟩ hv2, o1, o2⟩
 · clear hx0 hx1
   go_wp2_with (go_at_call 35; refine (mr_next HI.out _ (by omega) (by omega)).mono ?_; rintro _ w9 ⟨x, rfl, hx0, hx1, hi, -⟩; clear HI; (try clear y0 y1 y2 y3 y4 y5 y6 v0 v1 v2 v3 v4 v5 v6); have HI := aM hi; clear hi; (try (have hwx := wraps_u8' (1 + x) (by omega) (by omega))); obtain ⟨⟨y0, y1, y2, y3, y4, y5, y6⟩, v0, v1, v2, v3, v4, v5, v6⟩ := HI.out.rest)
   have p := HI.out.res; have p0 := fun x0 x1 x2 x3 x4 x5 x6 => cell_at (put7 p x0 x1 x2 x3 x4 x5 x6) 0 _ rfl; have p1 := fun x0 x1 x2 x3 x4 x5 x6 => cell_at (put7 p x0 x1 x2 x3 x4 x5 x6) 1 _ rfl; have p2 := fun x0 x1 x2 x3 x4 x5 x6 => cell_at (put7 p x0 x1 x2 x3 x4 x5 x6) 2 _ rfl; have p3 := fun x0 x1 x2 x3 x4 x5 x6 => cell_at (put7 p x0 x1 x2 x3 x4 x5 x6) 3 _ rfl; have p4 := fun x0 x1 x2 x3 x4 x5 x6 => cell_at (put7 p x0 x1 x2 x3 x4 x5 x6) 4 _ rfl; have p5 := fun x0 x1 x2 x3 x4 x5 x6 => cell_at (put7 p x0 x1 x2 x3 x4 x5 x6) 5 _ rfl; have p6 := fun x0 x1 x2 x3 x4 x5 x6 => cell_at (put7 p x0 x1 x2 x3 x4 x5 x6) 6 _ rfl; (try simp only [Exit.inBlock, Exit.then]); refine bodyPost_ret (by simp [results, Try.results36, go_sem, p0, p1, p2, p3, p4, p5, p6]; try rfl) rfl ?_
   obtain ⟨o1, o2, -⟩ := HI.out.out _ _ _ _ _ _ _ _ rfl
   exact ⟨_, .slice none 0 0, rfl, Kd.R_nil _ _ _ _ _, good4 ⟨by assumption, by assumption⟩ ⟨by assumption, by assumption⟩ hv2, o1, o2⟩
 · clear hx0 hx1
   go_wp2_with (go_at_call 35; refine (mr_next HI.out _ (by omega) (by omega)).mono ?_; rintro _ w9 ⟨x, rfl, hx0, hx1, hi, -⟩; clear HI; (try clear y0 y1 y2 y3 y4 y5 y6 v0 v1 v2 v3 v4 v5 v6); have HI := aM hi; clear hi; (try (have hwx := wraps_u8' (1 + x) (by omega) (by omega))); obtain ⟨⟨y0, y1, y2, y3, y4, y5, y6⟩, v0, v1, v2, v3, v4, v5, v6⟩ := HI.out.rest)
   have p := HI.out.res; have p0 := fun x0 x1 x2 x3 x4 x5 x6 => cell_at (put7 p x0 x1 x2 x3 x4 x5 x6) 0 _ rfl; have p1 := fun x0 x1 x2 x3 x4 x5 x6 => cell_at (put7 p x0 x1 x2 x3 x4 x5 x6) 1 _ rfl; have p2 := fun x0 x1 x2 x3 x4 x5 x6 => cell_at (put7 p x0 x1 x2 x3 x4 x5 x6) 2 _ rfl; have p3 := fun x0 x1 x2 x3 x4 x5 x6 => cell_at (put7 p x0 x1 x2 x3 x4 x5 x6) 3 _ rfl; have p4 := fun x0 x1 x2 x3 x4 x5 x6 => cell_at (put7 p x0 x1 x2 x3 x4 x5 x6) 4 _ rfl; have p5 := fun x0 x1 x2 x3 x4 x5 x6 => cell_at (put7 p x0 x1 x2 x3 x4 x5 x6) 5 _ rfl; have p6 := fun x0 x1 x2 x3 x4 x5 x6 => cell_at (put7 p x0 x1 x2 x3 x4 x5 x6) 6 _ rfl; (try simp only [Exit.inBlock, Exit.then]); refine bodyPost_ret (by simp [results, Try.results36, go_sem, p0, p1, p2, p3, p4, p5, p6]; try rfl) rfl ?_
   obtain ⟨o1, o2, -⟩ := HI.out.out _ _ _ _ _ _ _ _ rfl
   exact ⟨_, .slice none 0 0, rfl, Kd.R_nil _ _ _ _ _, good5 ⟨by assumption, by assumption⟩ ⟨by assumption, by assumption⟩ hv2, o1, o2⟩
 · clear hx0 hx1
   have HFL := aM trivial
   go_upto_region 11 with (first | (go_at_call 35; clear HFL; refine (mr_next HI.out _ (by omega) (by omega)).mono ?_; rintro _ w9 ⟨d, rfl, hd0, hd1, hi, -⟩; clear HI; (try clear y0 y1 y2 y3 y4 y5 y6 v0 v1 v2 v3 v4 v5 v6); have HI := aM hi; clear hi; obtain ⟨⟨y0, y1, y2, y3, y4, y5, y6⟩, v0, v1, v2, v3, v4, v5, v6⟩ := HI.out.rest) | (go_at_call 35; refine (mr_next HI.out _ (by omega) (by omega)).mono ?_; rintro _ w9 ⟨n, rfl, hn0, hn1, hi, -⟩; clear HI; (try clear y0 y1 y2 y3 y4 y5 y6 v0 v1 v2 v3 v4 v5 v6); have HI := aM hi; clear hi; obtain ⟨⟨y0, y1, y2, y3, y4, y5, y6⟩, v0, v1, v2, v3, v4, v5, v6⟩ := HI.out.rest))
   obtain ⟨gb, hgb⟩ : ∃ gb, w9.heap.size = gb := ⟨_, rfl⟩
   have HMB := aM (show MB w0 w (w9.alloc (.cells #[.int .u8 6, .int .u8 0, .int .i64 d, .int .i64 0, .int .i64 0, .int .i64 n, .slice none 0 0] 92)) g w.heap.size gb #[.int .u8 6, .int .u8 0, .int .i64 d, .int .i64 0, .int .i64 0, .int .i64 n, .slice none 0 0] from by
    have hz := blk_lt HI.out.res
    refine ⟨HI.out.step (Keep.of_below ((Below.refl _ _).alloc (Nat.le_refl _) _)) (HI.out.mkr.keep (S := fun _ => False) (Keep.of_below ((Below.refl _ _).alloc (Nat.le_refl _) _)) id), ?_, by omega⟩
    rw [← hgb]
    exact heap_alloc_new _ _)
   rw [hgb]
   obtain ⟨WB, hWB⟩ : ∃ WB, WB = w9.alloc (.cells #[.int .u8 6, .int .u8 0, .int .i64 d, .int .i64 0, .int .i64 0, .int .i64 n, .slice none 0 0] 92) := ⟨_, rfl⟩
   rw [← hWB] at HMB ⊢
   clear hWB hgb HI y0 y1 y2 y3 y4 y5 y6 v0 v1 v2 v3 v4 v5 v6
   go_wp2_with (go_at_call 35; refine (mb_next HMB.out 4 (by omega) (by omega)).mono ?_; rintro _ w8 ⟨cz, rfl, hc0, hc1, hi, -⟩; clear HMB; have HMB := aM hi; clear hi; obtain ⟨C, hC⟩ : ∃ C : Nat, cz = (C : Int) := ⟨cz.toNat, by omega⟩; subst hC)
   go_loopw [53] (fun vi wr => ∃ i' : Nat, i' ≤ C ∧ vi = .int .i64 i' ∧ ∃ va xs, Aside0 (MB w0 w wr g w.heap.size gb #[.int .u8 6, .int .u8 0, .int .i64 d, .int .i64 0, .int .i64 0, .int .i64 n, va]) ∧ Aside0 (kI.R 3 wr (gb + 1) (fun k => gb < k) va xs) ∧ xs.length = i' ∧ Aside0 (∀ x ∈ xs, 0 ≤ x ∧ x < v)) (fun vi _ => C - (intOf vi).toNat)
   case atStart => exact ⟨0, by omega, rfl, .slice none 0 0, [], HMB, ⟨Kd.R_nil _ _ _ _ _⟩, rfl, ⟨fun x hx => by cases hx⟩⟩
   case round =>
    clear HMB
    obtain ⟨wa, hwa⟩ : ∃ wa, wa = wr := ⟨_, rfl⟩
    subst hwa
    obtain ⟨i', hi', rfl, va, xs, HJ, HV, hxl, HXR⟩ := hrel
    by_cases hil : i' < C
    · have HGG := aM (show g < gb from by have := HJ.out.m.hg; have := HJ.out.hgb; omega)
      have HC6 := aM (show ∀ W', Keep (fun i => i = g ∨ gb < i) wa.drew W' → W'.heap[gb]? = some (.cells #[.int .u8 6, .int .u8 0, .int .i64 d, .int .i64 0, .int .i64 0, .int .i64 n, va] 92 (0, 0)) from fun W' h => (h.block gb (blk_lt HJ.out.bx) (fun e => by have := HGG.out; omega)).trans HJ.out.bx)
      go_wp2_with fail
      refine re_start [8] (fun i => i = g ∨ gb < i) (by kernel_rfl) (n := 9) (l := (bl 9 0)) (by kernel_rfl) (by kernel_rfl) ?_
      refine et 0 (bl 9 1) rfl (fun w' hR => by go_simp; first | done | with_reducible rfl) rfl ?_
      try simp only [Act.put, pB, pC, pD]
      refine et 1 (bl 9 3) rfl (fun w' hR => by have x0 := cell_at (HC6.out w' hR) 6 va rfl; go_simp; first | done | with_reducible rfl) rfl ?_
      try simp only [Act.put, pB, pC, pD]
      refine et 2 (bl 9 7) rfl (fun w' hR => by go_simp; first | done | with_reducible rfl) rfl ?_
      try simp only [Act.put, pB, pC, pD]
      refine et 3 (bl 9 15) rfl (fun w' hR => by go_simp; first | done | with_reducible rfl) rfl ?_
      try simp only [Act.put, pB, pC, pD]
      refine re_step (fuel := 4) 4 rfl (by kernel_rfl) (listed' := (bl 9 31)) (by kernel_rfl) (by kernel_rfl) (fun K' hK => ?_)
      go_wp2_with (go_at_call 35; refine (next_calls w0 wa.drew g v (HJ.out.m.mkr.keep (S := fun _ => False) (Keep.refl _ wa).drew id) HJ.out.m.b0.drew HJ.out.m.hg0 hv1 (by omega)).mono ?_; rintro _ w3 ⟨x, rfl, hx0, hx1, hmk, hk, -⟩; have HM3 := aM hmk; have HK3 := aM hk; clear hmk hk)
      refine hK.out _ _ (HK3.out.mono (fun i _ h => .inl h)) ?_
      clear hK K'
      try simp only [Act.put, pB, pC, pD]
      refine re_step (fuel := 3) 5 rfl (by kernel_rfl) (listed' := (bl 9 63)) (by kernel_rfl) (by kernel_rfl) (fun K' hK => ?_)
      (go_wp2_with fail); have HM4 := aM (HM3.out.keep (S := fun _ => False) (Keep.of_below ((Below.refl w3.heap.size w3).alloc (Nat.le_refl _) (.cells #[.int .i64 x] 3))) id)
      refine hK.out _ _ (Keep.of_below ((Below.refl w3.heap.size w3).alloc (Nat.le_refl _) (.cells #[.int .i64 x] 3))) ?_
      clear hK K'
      try simp only [Act.put, pB, pC, pD]
      refine re_step (fuel := 2) 6 rfl (by kernel_rfl) (listed' := (bl 9 127)) (by kernel_rfl) (by kernel_rfl) (fun K' hK => ?_)
      refine R_append_wp kI (W := w3) (gb + 1) (.tmp 56) (.tmp 60) 31 3 (.int .i64 0) 8 rfl Try.underlying31 infoI rfl (by decide) (by decide) va xs x [.int .i64 x] (fun k => gb < k) (fun _ => False) rfl rfl rfl (fun _ h => h.elim) (fun k hk => Nat.lt_of_lt_of_le (blk_lt HJ.out.bx) (Nat.le_trans HK3.out.size hk)) (Kd.R_step HV.out (fun k hk hl => HK3.out.block k hl (fun e => by have e : k = g := e; have := HGG.out; omega))) (Nat.lt_of_lt_of_le (blk_lt HJ.out.bx) HK3.out.size) (by omega) ?_; intro v4 w4 ho4 hg4 hg4' hat4; obtain ⟨A4, c4, hv4, -, -⟩ := Kd.R_reads ho4; obtain ⟨m4, hm4⟩ : ∃ m4, (xs ++ [x]).length = m4 := ⟨_, rfl⟩; rw [hm4] at hv4; subst hv4; clear hm4; have HO4 := aM ho4; have HK4 := aM (show Keep (fun i => gb < i) (w3.alloc (.cells #[.int .i64 x] 3)) w4 from grown_keep hg4' (fun i hi => HV.out.1 i hi)); clear ho4 hg4 hg4' hat4
      refine hK.out _ _ (HK4.out.mono (fun i _ h => .inr h)) ?_
      clear hK K'
      try simp only [Act.put, pB, pC, pD]
      refine et 7 (bl 9 255) rfl (fun w' hR => by go_simp; first | done | with_reducible rfl) rfl ?_
      try simp only [Act.put, pB, pC, pD]
      refine re_free (fuel := 0) 8 rfl (by kernel_rfl) (listed' := (bl 9 511)) (by kernel_rfl) (by kernel_rfl) (fun K' hK => ?_)
      have hk4 : Keep (fun i => i = g ∨ gb < i) wa.drew w4 := ((HK3.out.mono (fun i _ h => .inl h)).trans (Keep.of_below ((Below.refl w3.heap.size w3).alloc (Nat.le_refl _) (.cells #[.int .i64 x] 3)))).trans (HK4.out.mono (fun i _ h => .inr h)); have hh := HC6.out w4 hk4; have x7 := cell_at hh 6 va rfl; have x8 := blk_frozen hh 6; have HKW := aM hk4; clear hk4 hh; go_wp2_with fail
      refine hK.out _ _ trivial ?_
      clear hK K'
      try simp only [Act.put, pB, pC, pD]
      refine re_done (by kernel_rfl) ?_
      have HIN := aM (show MB w0 w (w4.setCell ⟨gb, 6, none⟩ (.slice A4 m4 c4)) g w.heap.size gb #[.int .u8 6, .int .u8 0, .int .i64 d, .int .i64 0, .int .i64 0, .int .i64 n, .slice A4 m4 c4] from (HJ.out.move HKW.out (HM4.out.keep HK4.out (fun e => by have := HGG.out; omega))).set 6 (.slice A4 m4 c4))
      have HRN := aM (show kI.R 3 (w4.setCell ⟨gb, 6, none⟩ (.slice A4 m4 c4)) (gb + 1) (fun k => gb < k) (.slice A4 m4 c4) (xs ++ [x]) from Kd.R_step HO4.out (fun k hk hl => Below.heap_setCell _ _ _ _ (show k ≠ gb by omega)))
      have HXN := aM (show ∀ y ∈ xs ++ [x], 0 ≤ y ∧ y < v from fun y hy => by
       rcases List.mem_append.1 hy with h | h
       · exact HXR.out y h
       · rw [List.mem_singleton] at h; subst h; exact ⟨hx0, hx1⟩)
      have hxl2 : (xs ++ [x]).length = i' + 1 := by rw [List.length_append, hxl]; rfl
      have HXL := aM hxl2
      clear hxl2
      go_wp2
      go_roundw
      case rel => exact ⟨i' + 1, by omega, by go_num, .slice A4 m4 c4, xs ++ [x], HIN, HRN, HXL.out, HXN⟩
      case measure => simp [intOf]; omega
    · obtain rfl : i' = C := by omega
      have HI := aM HJ.out.m
      obtain ⟨Av, cv, hv, -, -⟩ := Kd.R_reads HV.out
      obtain ⟨mv, hmv⟩ : ∃ m, xs.length = m := ⟨_, rfl⟩
      rw [hmv] at hv
      subst hv
      have c0 := cell_at HJ.out.bx 0 _ rfl
      have c1 := cell_at HJ.out.bx 1 _ rfl
      have c2 := cell_at HJ.out.bx 2 _ rfl
      have c3 := cell_at HJ.out.bx 3 _ rfl
      have c4 := cell_at HJ.out.bx 4 _ rfl
      have c5 := cell_at HJ.out.bx 5 _ rfl
      have c6 := cell_at HJ.out.bx 6 _ rfl
      obtain ⟨⟨y0, y1, y2, y3, y4, y5, y6⟩, v0, v1, v2, v3, v4, v5, v6⟩ := HI.out.rest
      go_wp2
      have p := HI.out.res; have p0 := fun x0 x1 x2 x3 x4 x5 x6 => cell_at (put7 p x0 x1 x2 x3 x4 x5 x6) 0 _ rfl; have p1 := fun x0 x1 x2 x3 x4 x5 x6 => cell_at (put7 p x0 x1 x2 x3 x4 x5 x6) 1 _ rfl; have p2 := fun x0 x1 x2 x3 x4 x5 x6 => cell_at (put7 p x0 x1 x2 x3 x4 x5 x6) 2 _ rfl; have p3 := fun x0 x1 x2 x3 x4 x5 x6 => cell_at (put7 p x0 x1 x2 x3 x4 x5 x6) 3 _ rfl; have p4 := fun x0 x1 x2 x3 x4 x5 x6 => cell_at (put7 p x0 x1 x2 x3 x4 x5 x6) 4 _ rfl; have p5 := fun x0 x1 x2 x3 x4 x5 x6 => cell_at (put7 p x0 x1 x2 x3 x4 x5 x6) 5 _ rfl; have p6 := fun x0 x1 x2 x3 x4 x5 x6 => cell_at (put7 p x0 x1 x2 x3 x4 x5 x6) 6 _ rfl; (try simp only [Exit.inBlock, Exit.then]); refine bodyPost_ret (by simp [results, Try.results36, go_sem, p0, p1, p2, p3, p4, p5, p6]; try rfl) rfl ?_
      obtain ⟨o1, o2, o3⟩ := HI.out.out _ _ _ _ _ _ _ _ rfl
      have h3 := HJ.out.hgb
      exact ⟨(6, 0, d, 0, 0, n, xs), .slice Av mv cv, rfl, Kd.R_lower (Kd.R_mono (Kd.R_step HV.out (fun k hk hl => o3.block k hl (fun e => by have e : k = w.heap.size := e; omega))) (fun _ _ => trivial)) (by omega), good6 ⟨hd0, hd1⟩ hv2 ⟨by omega, by omega⟩ (by omega) HXR.out, o1, o2⟩
 · clear hx0 hx1
   go_wp2_with (go_at_call 35; refine (mr_next HI.out _ (by omega) (by omega)).mono ?_; rintro _ w9 ⟨x, rfl, hx0, hx1, hi, -⟩; clear HI; (try clear y0 y1 y2 y3 y4 y5 y6 v0 v1 v2 v3 v4 v5 v6); have HI := aM hi; clear hi; (try (have hwx := wraps_u8' (1 + x) (by omega) (by omega))); obtain ⟨⟨y0, y1, y2, y3, y4, y5, y6⟩, v0, v1, v2, v3, v4, v5, v6⟩ := HI.out.rest)
   have p := HI.out.res; have p0 := fun x0 x1 x2 x3 x4 x5 x6 => cell_at (put7 p x0 x1 x2 x3 x4 x5 x6) 0 _ rfl; have p1 := fun x0 x1 x2 x3 x4 x5 x6 => cell_at (put7 p x0 x1 x2 x3 x4 x5 x6) 1 _ rfl; have p2 := fun x0 x1 x2 x3 x4 x5 x6 => cell_at (put7 p x0 x1 x2 x3 x4 x5 x6) 2 _ rfl; have p3 := fun x0 x1 x2 x3 x4 x5 x6 => cell_at (put7 p x0 x1 x2 x3 x4 x5 x6) 3 _ rfl; have p4 := fun x0 x1 x2 x3 x4 x5 x6 => cell_at (put7 p x0 x1 x2 x3 x4 x5 x6) 4 _ rfl; have p5 := fun x0 x1 x2 x3 x4 x5 x6 => cell_at (put7 p x0 x1 x2 x3 x4 x5 x6) 5 _ rfl; have p6 := fun x0 x1 x2 x3 x4 x5 x6 => cell_at (put7 p x0 x1 x2 x3 x4 x5 x6) 6 _ rfl; (try simp only [Exit.inBlock, Exit.then]); refine bodyPost_ret (by simp [results, Try.results36, go_sem, p0, p1, p2, p3, p4, p5, p6]; try rfl) rfl ?_
   obtain ⟨o1, o2, -⟩ := HI.out.out _ _ _ _ _ _ _ _ rfl
   exact ⟨_, .slice none 0 0, rfl, Kd.R_nil _ _ _ _ _, good2 ⟨by assumption, by assumption⟩ ⟨by assumption, by assumption⟩ hv2, o1, o2⟩
 · clear hx0 hx1
   go_wp2_with (go_at_call 35; refine (mr_next HI.out _ (by omega) (by omega)).mono ?_; rintro _ w9 ⟨x, rfl, hx0, hx1, hi, -⟩; clear HI; (try clear y0 y1 y2 y3 y4 y5 y6 v0 v1 v2 v3 v4 v5 v6); have HI := aM hi; clear hi; (try (have hwx := wraps_u8' (1 + x) (by omega) (by omega))); obtain ⟨⟨y0, y1, y2, y3, y4, y5, y6⟩, v0, v1, v2, v3, v4, v5, v6⟩ := HI.out.rest)
   have p := HI.out.res; have p0 := fun x0 x1 x2 x3 x4 x5 x6 => cell_at (put7 p x0 x1 x2 x3 x4 x5 x6) 0 _ rfl; have p1 := fun x0 x1 x2 x3 x4 x5 x6 => cell_at (put7 p x0 x1 x2 x3 x4 x5 x6) 1 _ rfl; have p2 := fun x0 x1 x2 x3 x4 x5 x6 => cell_at (put7 p x0 x1 x2 x3 x4 x5 x6) 2 _ rfl; have p3 := fun x0 x1 x2 x3 x4 x5 x6 => cell_at (put7 p x0 x1 x2 x3 x4 x5 x6) 3 _ rfl; have p4 := fun x0 x1 x2 x3 x4 x5 x6 => cell_at (put7 p x0 x1 x2 x3 x4 x5 x6) 4 _ rfl; have p5 := fun x0 x1 x2 x3 x4 x5 x6 => cell_at (put7 p x0 x1 x2 x3 x4 x5 x6) 5 _ rfl; have p6 := fun x0 x1 x2 x3 x4 x5 x6 => cell_at (put7 p x0 x1 x2 x3 x4 x5 x6) 6 _ rfl; (try simp only [Exit.inBlock, Exit.then]); refine bodyPost_ret (by simp [results, Try.results36, go_sem, p0, p1, p2, p3, p4, p5, p6]; try rfl) rfl ?_
   obtain ⟨o1, o2, -⟩ := HI.out.out _ _ _ _ _ _ _ _ rfl
   exact ⟨_, .slice none 0 0, rfl, Kd.R_nil _ _ _ _ _, good3 ⟨by omega, by omega⟩ ⟨by assumption, by assumption⟩ ⟨by assumption, by assumption⟩ ⟨by assumption, by assumption⟩ hv2, o1, o2⟩
 · clear hx0 hx1
   go_wp2_with (go_at_call 35; refine (mr_next HI.out _ (by omega) (by omega)).mono ?_; rintro _ w9 ⟨x, rfl, hx0, hx1, hi, -⟩; clear HI; (try clear y0 y1 y2 y3 y4 y5 y6 v0 v1 v2 v3 v4 v5 v6); have HI := aM hi; clear hi; (try (have hwx := wraps_u8' (1 + x) (by omega) (by omega))); obtain ⟨⟨y0, y1, y2, y3, y4, y5, y6⟩, v0, v1, v2, v3, v4, v5, v6⟩ := HI.out.rest)
   have p := HI.out.res; have p0 := fun x0 x1 x2 x3 x4 x5 x6 => cell_at (put7 p x0 x1 x2 x3 x4 x5 x6) 0 _ rfl; have p1 := fun x0 x1 x2 x3 x4 x5 x6 => cell_at (put7 p x0 x1 x2 x3 x4 x5 x6) 1 _ rfl; have p2 := fun x0 x1 x2 x3 x4 x5 x6 => cell_at (put7 p x0 x1 x2 x3 x4 x5 x6) 2 _ rfl; have p3 := fun x0 x1 x2 x3 x4 x5 x6 => cell_at (put7 p x0 x1 x2 x3 x4 x5 x6) 3 _ rfl; have p4 := fun x0 x1 x2 x3 x4 x5 x6 => cell_at (put7 p x0 x1 x2 x3 x4 x5 x6) 4 _ rfl; have p5 := fun x0 x1 x2 x3 x4 x5 x6 => cell_at (put7 p x0 x1 x2 x3 x4 x5 x6) 5 _ rfl; have p6 := fun x0 x1 x2 x3 x4 x5 x6 => cell_at (put7 p x0 x1 x2 x3 x4 x5 x6) 6 _ rfl; (try simp only [Exit.inBlock, Exit.then]); refine bodyPost_ret (by simp [results, Try.results36, go_sem, p0, p1, p2, p3, p4, p5, p6]; try rfl) rfl ?_
   obtain ⟨o1, o2, -⟩ := HI.out.out _ _ _ _ _ _ _ _ rfl
   exact ⟨_, .slice none 0 0, rfl, Kd.R_nil _ _ _ _ _, good3 ⟨by omega, by omega⟩ ⟨by assumption, by assumption⟩ ⟨by assumption, by assumption⟩ ⟨by assumption, by assumption⟩ hv2, o1, o2⟩
end Go.Proofs.Ytnckonglodmfeaa.Ik
