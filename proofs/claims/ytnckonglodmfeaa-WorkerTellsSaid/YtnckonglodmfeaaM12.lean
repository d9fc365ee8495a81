/- Contracts and plain facts that the statements' proofs use (part 12). -/
import Derived.Test.YtnckonglodmfeaaM5
import Derived.Test.YtnckonglodmfeaaM6
import Derived.Test.YtnckonglodmfeaaM7
import Derived.Test.YtnckonglodmfeaaM10
import Derived.Test.YtnckonglodmfeaaM11
set_option linter.unusedVariables false
set_option linter.unusedSimpArgs false
namespace Go.Proofs.Ytnckonglodmfeaa.Ik
open Ls Lc Go.RowKit Go.Proofs.YtnckonglodmfeaaW.PrintWords Go.Proofs.YtnckonglodmfeaaW.PrintLast Go.Proofs.YtnckonglodmfeaaW.PrintMore B R S Is Js
def CodRet (w' : World) (base : Nat) (x : Cod × Int) (e : Ending) : Prop :=
 ∃ p v sl vb bs, e = .returned (.tuple #[.agg #[.int .i64 p, .int .i64 v, .int .i64 sl, vb], .int .i64 x.2]) ∧ kBlk.R 84 w' base (fun _ => True) vb bs ∧ ((x.2 = 0 ∧ x.1 = (p, v, sl, bs)) ∨ (x.2 ≠ 0 ∧ p = 0 ∧ v = 0 ∧ sl = 0 ∧ bs = []))
structure Tg (T : Nat) (Z : Array Value) (w0 W : World) (gb : Nat) (F : Array Value) : Prop where
 res : W.heap[w0.heap.size]? = some (.cells Z T (0, 0))
 bx : W.heap[gb]? = some (.cells F T (0, 0))
 below : Below w0.heap.size w0 W
 hgb : w0.heap.size < gb
section
variable {T : Nat} {Z : Array Value} {w0 W W' : World} {gb : Nat} {F : Array Value}
theorem Tg.keep {S : Nat → Prop} (h : Tg T Z w0 W gb F) (hk : Keep S W W') (h1 : ¬ S w0.heap.size) (h2 : ¬ S gb) (h3 : ∀ i, S i → w0.heap.size ≤ i) : Tg T Z w0 W' gb F :=
 ⟨(hk.block _ (blk_lt h.res) h1).trans h.res, (hk.block _ (blk_lt h.bx) h2).trans h.bx, h.below.trans (keep_below hk h.below.size h3), h.hgb⟩
theorem Tg.grow (h : Tg T Z w0 W gb F) (hb : Below W.heap.size W W') : Tg T Z w0 W' gb F := h.keep (S := fun _ => False) (Keep.of_below hb) id id (fun _ => False.elim)
theorem Tg.set (h : Tg T Z w0 W gb F) (j : Nat) (x : Value) : Tg T Z w0 (W.setCell ⟨gb, j, none⟩ x) gb (F.setIfInBounds j x) := by
 have h1 := h.hgb
 exact ⟨(Below.heap_setCell _ _ _ _ (show w0.heap.size ≠ gb by omega)).trans h.res, heap_setCell_same W gb j F _ _ h.bx, h.below.setCell (by show w0.heap.size ≤ gb; omega) _, h1⟩
end
theorem cells4 {W : World} {g e : Nat} {x0 x1 x2 x3 : Value} (h : W.heap[g]? = some (.cells #[x0, x1, x2, x3] e (0, 0))) : (W.cell? ⟨g, 0, none⟩ = some x0 ∧ W.cell? ⟨g, 1, none⟩ = some x1 ∧ W.cell? ⟨g, 2, none⟩ = some x2 ∧ W.cell? ⟨g, 3, none⟩ = some x3) ∧ ∀ j, W.frozen? ⟨g, j, none⟩ = false :=
 ⟨⟨cell_at h 0 _ rfl, cell_at h 1 _ rfl, cell_at h 2 _ rfl, cell_at h 3 _ rfl⟩, fun j => blk_frozen h j⟩
abbrev TC (w0 W : World) (gb : Nat) (F : Array Value) : Prop := Tg 54 #[.int .i64 0, .int .i64 0, .int .i64 0, .slice none 0 0] w0 W gb F
theorem TC.cells {w0 W : World} {gb : Nat} {F : Array Value} {x0 x1 x2 x3 : Value} (h : TC w0 W gb F) (hF : F = #[x0, x1, x2, x3]) :
 ((W.cell? ⟨gb, 0, none⟩ = some x0 ∧ W.cell? ⟨gb, 1, none⟩ = some x1 ∧ W.cell? ⟨gb, 2, none⟩ = some x2 ∧ W.cell? ⟨gb, 3, none⟩ = some x3) ∧ ∀ j, W.frozen? ⟨gb, j, none⟩ = false) ∧
 (W.cell? ⟨w0.heap.size, 0, none⟩ = some (.int .i64 0) ∧ W.cell? ⟨w0.heap.size, 1, none⟩ = some (.int .i64 0) ∧ W.cell? ⟨w0.heap.size, 2, none⟩ = some (.int .i64 0) ∧ W.cell? ⟨w0.heap.size, 3, none⟩ = some (.slice none 0 0)) ∧ ∀ j, W.frozen? ⟨w0.heap.size, j, none⟩ = false := by
 subst hF
 exact ⟨cells4 h.bx, cells4 h.res⟩
theorem put4_keep {W : World} {g : Nat} (x0 x1 x2 x3 : Value) : Keep (fun i => i = g) W ((((W.setCell ⟨g, 0, none⟩ x0).setCell ⟨g, 1, none⟩ x1).setCell ⟨g, 2, none⟩ x2).setCell ⟨g, 3, none⟩ x3) := put4_far x0 x1 x2 x3
theorem sCod_eq {l : List Int} {p v sl : Int} {s1 s2 s3 s4 : St} {B : List Blk} {E : Int} (h1 : sBelow 4096 (l, 0) = (p, s1)) (h2 : sBelow 4096 s1 = (v, s2)) (h3 : sBelow 4096 s2 = (sl, s3)) (h4 : sBlks 400 s3 = (B, s4)) (hE : ended s4.1 s4.2 = E) :
 sCod l = ((p, v, sl, B), if E = 0 then (if codeErr (p, v, sl, B) = 0 then 0 else 30) else E) := by
 unfold sCod
 simp only [h1, h2, h3, h4, hE]
theorem ended_ok {s : St} (h : ended s.1 s.2 = 0) : s.2 = 0 := by
 unfold ended failed at h
 by_cases h1 : 0 < s.1.length
 · rw [if_pos h1] at h
   by_cases h2 : s.2 = 0
   · exact h2
   · rw [if_neg h2] at h; exact h
 · rwa [if_neg h1] at h
theorem blks_len16 (most : Int) {s : St} (h : By s.1) : (sBlks most s).1.length ≤ 16 := by
 have h2 := blkN_len most (sBelow 17 s).1.toNat (sBelow 17 s).2
 have h3 := below_range (m := 17) (by decide) h
 show (sBlkN most (sBelow 17 s).1.toNat (sBelow 17 s).2).1.length ≤ 16
 omega
set_option maxHeartbeats 4000000 in
set_option maxRecDepth 100000 in
theorem wread_code (A : Option Addr) (c : Nat) (l : List Int) (w : World) (hC : kU8.C w A l.length l) (hll : l.length ≤ 1000000) (hby : By l) :
 Calls Try.prog 61 #[.slice A l.length c] w fun e w' => CodRet w' w.heap.size (sCod l) e ∧ Below w.heap.size w w' := by
 have mixed : Try.prog.follows .mixedOrders = true := by kernel_rfl
 have hff := fault_field
 have HC := aM hC
 have HBY := aM hby
 obtain ⟨p, s1, hp⟩ : ∃ p s1, sBelow 4096 (l, 0) = (p, s1) := ⟨_, _, rfl⟩
 obtain ⟨v, s2, hv⟩ : ∃ v s2, sBelow 4096 s1 = (v, s2) := ⟨_, _, rfl⟩
 obtain ⟨sl, s3, hsl⟩ : ∃ sl s3, sBelow 4096 s2 = (sl, s3) := ⟨_, _, rfl⟩
 obtain ⟨B, s4, hB⟩ : ∃ B s4, sBlks 400 s3 = (B, s4) := ⟨_, _, rfl⟩
 obtain ⟨E, hE⟩ : ∃ E, ended s4.1 s4.2 = E := ⟨_, rfl⟩
 have hF := sCod_eq hp hv hsl hB hE
 have HCD := aM (show E = 0 → s4.2 = 0 from fun h => ended_ok (by rw [hE]; exact h))
 have HBL := aM (show B.length ≤ 16 from by
  have a := sbelow_by (m := 4096) (s := (l, 0)) hby
  rw [hp] at a
  have a := sbelow_by (m := 4096) (s := s1) a
  rw [hv] at a
  have a := sbelow_by (m := 4096) (s := s2) a
  rw [hsl] at a
  have h := blks_len16 400 a
  rw [hB] at h
  exact h)
 obtain ⟨X, hX⟩ : ∃ X : Int, (if E = 0 then (if codeErr (p, v, sl, B) = 0 then 0 else 30) else E) = X := ⟨_, rfl⟩
 rw [hX] at hF
 rw [hF]
 have HXX := aM hX
 have HP := aM hp
 have HV := aM hv
 have HSL := aM hsl
 have HB := aM hB
 have HE := aM hE
 have HSZ := aM (World.size_alloc w (.cells #[.int .i64 0, .int .i64 0, .int .i64 0, .slice none 0 0] 54))
 have HA := aM (show Below w.heap.size w (w.alloc (.cells #[.int .i64 0, .int .i64 0, .int .i64 0, .slice none 0 0] 54)) from (Below.refl _ _).alloc (Nat.le_refl _) _)
 clear hC hby hp hv hsl hB hE hF hX
 go_enter Try.func61, Try.ntmps61
 go_upto_region 3 with (first
  | (go_at_call 93; refine (new_calls A c l _ (Kd.C_alloc HC.out _) (by omega)).mono ?_; rintro _ w1 ⟨g, b, rfl, hr, hb, hg1, hb1, hb2⟩; have HDa := aM (show Rd w1 g b (l, 0) from ⟨hr, HBY.out, hb2⟩); have HK := aM (Keep.refl (· = g) w1); have HW1 := aM (show Below (w.heap.size + 1) (w.alloc (.cells #[.int .i64 0, .int .i64 0, .int .i64 0, .slice none 0 0] 54)) w1 from by rw [HSZ.out] at hb; exact hb); have HG := aM (show w.heap.size + 1 ≤ g from by rw [HSZ.out] at hg1; exact hg1); clear hr hb hg1 hb1 hb2)
  | (go_at_call 46; refine (rd_below g b _ 4096 _ HDa.out (by decide) (by decide)).mono ?_; rintro _ w2 ⟨rfl, hd, hk, -⟩; rw [HP.out] at hd ⊢; have HDb := aM hd; have HKn := aM (HK.out.trans hk); clear HK HDa hd hk; have HK := HKn; clear HKn)
  | (go_at_call 46; refine (rd_below g b _ 4096 _ HDb.out (by decide) (by decide)).mono ?_; rintro _ w3 ⟨rfl, hd, hk, -⟩; rw [HV.out] at hd ⊢; have HDc := aM hd; have HKn := aM (HK.out.trans hk); clear HK HDb hd hk; have HK := HKn; clear HKn)
  | (go_at_call 46; refine (rd_below g b _ 4096 _ HDc.out (by decide) (by decide)).mono ?_; rintro _ w4 ⟨rfl, hd, hk, -⟩; rw [HSL.out] at hd ⊢; have HDd := aM hd; have HKn := aM (HK.out.trans hk); clear HK HDc hd hk; have HK := HKn; clear HKn))
 have hzg := HG.out
 have hz1 : w.heap.size + 1 ≤ w1.heap.size := by have := HW1.out.size; rw [HSZ.out] at this; exact this
 have hb4 : Below (w.heap.size + 1) (w.alloc (.cells #[.int .i64 0, .int .i64 0, .int .i64 0, .slice none 0 0] 54)) w4 := HW1.out.trans (keep_below HK.out hz1 (fun i e => by have e : i = g := e; omega))
 have hz4 : w.heap.size + 1 ≤ w4.heap.size := by have := hb4.size; rw [HSZ.out] at this; exact this
 have HT := aM (show TC w (w4.alloc (.cells #[.int .i64 p, .int .i64 v, .int .i64 sl, .slice none 0 0] 54)) w4.heap.size #[.int .i64 p, .int .i64 v, .int .i64 sl, .slice none 0 0] from
  ⟨below_cells ((hb4.alloc hz4 _).mono (by rw [HSZ.out]; exact Nat.le_refl _)), heap_alloc_new _ _, (HA.out.trans (hb4.mono (by omega))).alloc (by omega) _, by omega⟩)
 have HD := aM (show Rd (w4.alloc (.cells #[.int .i64 p, .int .i64 v, .int .i64 sl, .slice none 0 0] 54)) g b s3 from HDd.out.below ((Below.refl _ _).alloc (Nat.le_refl _) _))
 have hgl := HDd.out.1.lt
 have hbl := HDd.out.2.2
 obtain ⟨gb, hgb⟩ : ∃ gb, w4.heap.size = gb := ⟨_, rfl⟩
 rw [hgb] at HT hgl hbl ⊢
 obtain ⟨W, hW⟩ : ∃ W, W = w4.alloc (.cells #[.int .i64 p, .int .i64 v, .int .i64 sl, .slice none 0 0] 54) := ⟨_, rfl⟩
 rw [← hW] at HT HD ⊢
 clear hW hgb hz4 hb4 HDd HK HW1
 obtain ⟨⟨⟨q0, q1, q2, q3⟩, qz⟩, ⟨x0, x1, x2, x3⟩, xz⟩ := TC.cells HT.out rfl
 have hgW := HD.out.1.lt
 have hgbW := blk_lt HT.out.bx
 go_upto_region 5 with (first
  | (go_at_call 95; refine (wread_blocks g b s3 400 _ HD.out HD.out.1.lt (by decide) (by decide)).mono ?_; rintro _ w5 ⟨vb, bs, rfl, hr, hbs, hd, hk⟩; obtain ⟨Ab, cb, rfl, -, -⟩ := Kd.R_reads hr; obtain ⟨nb, hnb⟩ : ∃ n, bs.length = n := ⟨_, rfl⟩; rw [hnb] at hr ⊢; rw [HB.out] at hbs hd; have HT5 := aM (HT.out.keep hk (fun e => by have e : w.heap.size = g := e; omega) (fun e => by have e : gb = g := e; omega) (fun i e => by have e : i = g := e; omega)); have HD5 := aM hd; have HR := aM (Kd.R_mono (Kd.R_bound hr) (ok' := fun k => W.heap.size ≤ k) (fun k hk => hk.2.1)); have HBS := aM hbs; have HNB := aM hnb; clear hr hbs hd hk hnb q0 q1 q2 q3 qz x0 x1 x2 x3 xz; obtain ⟨⟨⟨q0, q1, q2, q3⟩, qz⟩, ⟨x0, x1, x2, x3⟩, xz⟩ := TC.cells HT5.out rfl)
  | (go_at_call 50; have HT6 := aM (HT5.out.set 3 (.slice Ab nb cb)); have HD6 := aM (show Rd (w5.setCell ⟨gb, 3, none⟩ (.slice Ab nb cb)) g b s4 from HD5.out.keep (S := (· = gb)) ((Keep.refl _ _).setCell ⟨gb, 3, none⟩ (.slice Ab nb cb) (fun _ => rfl)) (by omega) (by omega)); refine (rd_end g b s4 _ HD6.out).mono ?_; rintro _ w6 ⟨rfl, hk, -⟩; rw [HE.out]; have HT7 := aM (HT6.out.keep hk (fun e => by have e : w.heap.size = g := e; omega) (fun e => by have e : gb = g := e; omega) (fun i e => by have e : i = g := e; omega)); have HR6 := aM (Kd.R_step HR.out (fun k hk' hl => (hk.block k (by rw [size_set]; exact hl) (fun e => by have e : k = g := e; omega)).trans (Below.heap_setCell _ _ _ _ (by show k ≠ gb; omega)))); clear hk q0 q1 q2 q3 qz x0 x1 x2 x3 xz; obtain ⟨⟨⟨q0, q1, q2, q3⟩, qz⟩, ⟨x0, x1, x2, x3⟩, xz⟩ := TC.cells HT7.out rfl))
 obtain rfl := HNB.out
 have HC6 := aM (show kBlk.C w6 Ab bs.length bs from by
  obtain ⟨A', c', e, -, hC⟩ := Kd.R_reads HR6.out
  injection e with e1 e2 e3
  subst e1
  exact hC)
 clear HR HT HT5 HT6 HD HD5 HD6 HNB
 have hgw := HT7.out.hgb
 by_cases hE0 : E = 0
 · subst hE0
   have hbs : bs = B := HBS.out (HCD.out rfl)
   subst hbs
   have hl16 := HBL.out
   obtain ⟨FE, hFE⟩ : ∃ FE, codeErr (p, v, sl, bs) = FE := ⟨_, rfl⟩
   have HFE := aM hFE
   clear hFE
   by_cases hF0 : FE = 0
   · subst hF0
     go_wp2_with (go_at_call 98; refine (mcheck_calls p v sl bs Ab cb _ HC6.out (by omega)).mono ?_; rintro _ w7 ⟨⟨x9, y9, rfl⟩, hb⟩; rw [HFE.out]; have HT8 := aM (HT7.out.grow hb); have HB7 := aM hb; clear hb q0 q1 q2 q3 qz x0 x1 x2 x3 xz; obtain ⟨⟨⟨q0, q1, q2, q3⟩, qz⟩, ⟨x0, x1, x2, x3⟩, xz⟩ := TC.cells HT8.out rfl)
     (have rr := HT8.out.res; have p0 := fun x0 x1 x2 x3 => cell_at (put4 rr x0 x1 x2 x3) 0 _ rfl; have p1 := fun x0 x1 x2 x3 => cell_at (put4 rr x0 x1 x2 x3) 1 _ rfl; have p2 := fun x0 x1 x2 x3 => cell_at (put4 rr x0 x1 x2 x3) 2 _ rfl; have p3 := fun x0 x1 x2 x3 => cell_at (put4 rr x0 x1 x2 x3) 3 _ rfl; (try simp only [Exit.inBlock, Exit.then]); refine bodyPost_ret (by simp [results, Try.results61, go_sem, p0, p1, p2, p3]; try rfl) rfl ?_)
     refine ⟨?_, HT8.out.below.trans (keep_below (put4_keep _ _ _ _) HT8.out.below.size (fun i e => by omega))⟩
     rw [show X = 0 from by rw [← HXX.out]; simp [HFE.out]]
     refine ⟨p, v, sl, _, bs, rfl, Kd.R_mono (Kd.R_step (Kd.R_lower (Kd.R_below HR6.out HB7.out) (by omega)) (fun k hk hl => (put4_keep _ _ _ _).block k hl (fun e => by omega))) (fun _ _ => trivial), .inl ⟨rfl, rfl⟩⟩
   · have hcn : (FE != 0) = true := bne_iff_ne.mpr hF0
     have hcb : (FE == 0) = false := beq_eq_false_iff_ne.mpr hF0
     have HF0 := aM hF0
     clear hF0
     go_wp2_with (go_at_call 98; refine (mcheck_calls p v sl bs Ab cb _ HC6.out (by omega)).mono ?_; rintro _ w7 ⟨⟨x9, y9, rfl⟩, hb⟩; rw [HFE.out]; have HT8 := aM (HT7.out.grow hb); have HB7 := aM hb; clear hb q0 q1 q2 q3 qz x0 x1 x2 x3 xz; obtain ⟨⟨⟨q0, q1, q2, q3⟩, qz⟩, ⟨x0, x1, x2, x3⟩, xz⟩ := TC.cells HT8.out rfl)
     (have rr := HT8.out.res; have p0 := fun x0 x1 x2 x3 => cell_at (put4 rr x0 x1 x2 x3) 0 _ rfl; have p1 := fun x0 x1 x2 x3 => cell_at (put4 rr x0 x1 x2 x3) 1 _ rfl; have p2 := fun x0 x1 x2 x3 => cell_at (put4 rr x0 x1 x2 x3) 2 _ rfl; have p3 := fun x0 x1 x2 x3 => cell_at (put4 rr x0 x1 x2 x3) 3 _ rfl; (try simp only [Exit.inBlock, Exit.then]); refine bodyPost_ret (by simp [results, Try.results61, go_sem, p0, p1, p2, p3]; try rfl) rfl ?_)
     refine ⟨?_, HT8.out.below.trans (keep_below (put4_keep _ _ _ _) HT8.out.below.size (fun i e => by omega))⟩
     rw [show X = 30 from by rw [← HXX.out]; simp [HFE.out, HF0.out]]
     exact ⟨0, 0, 0, _, [], rfl, Kd.R_nil _ _ _ _ _, .inr ⟨(by decide : (30 : Int) ≠ 0), rfl, rfl, rfl, rfl⟩⟩
 · have hcn : (E != 0) = true := bne_iff_ne.mpr hE0
   have hcb : (E == 0) = false := beq_eq_false_iff_ne.mpr hE0
   have HE0 := aM hE0
   clear hE0
   go_wp2
   (have rr := HT7.out.res; have p0 := fun x0 x1 x2 x3 => cell_at (put4 rr x0 x1 x2 x3) 0 _ rfl; have p1 := fun x0 x1 x2 x3 => cell_at (put4 rr x0 x1 x2 x3) 1 _ rfl; have p2 := fun x0 x1 x2 x3 => cell_at (put4 rr x0 x1 x2 x3) 2 _ rfl; have p3 := fun x0 x1 x2 x3 => cell_at (put4 rr x0 x1 x2 x3) 3 _ rfl; (try simp only [Exit.inBlock, Exit.then]); refine bodyPost_ret (by simp [results, Try.results61, go_sem, p0, p1, p2, p3]; try rfl) rfl ?_)
   refine ⟨?_, HT7.out.below.trans (keep_below (put4_keep _ _ _ _) HT7.out.below.size (fun i e => by omega))⟩
   rw [show X = E from by rw [← HXX.out]; exact if_neg HE0.out]
   exact ⟨0, 0, 0, _, [], rfl, Kd.R_nil _ _ _ _ _, .inr ⟨HE0.out, rfl, rfl, rfl, rfl⟩⟩
end Go.Proofs.Ytnckonglodmfeaa.Ik
namespace Go.Proofs.Ytnckonglodmfeaa.Ik
open Go.RowKit Go.Proofs.YtnckonglodmfeaaW.PrintWords Go.Proofs.YtnckonglodmfeaaW.PrintLast Go.Proofs.YtnckonglodmfeaaW.PrintMore B R S Is
set_option maxHeartbeats 4000000 in
set_option maxRecDepth 100000 in
theorem rcode_calls (p v sl : Int) (l : List Blk) (A : Option Addr) (c : Nat) (w : World) (hC : kBlk.C w A l.length l) (hll : l.length ≤ 100000) :
 Calls Try.prog 58 #[.agg #[.int .i64 p, .int .i64 v, .int .i64 sl, .slice A l.length c]] w fun r w' => FaultIs (codeErr (p, v, sl, l)) r ∧ Below w.heap.size w w' := by
 have mixed : Try.prog.follows .mixedOrders = true := by kernel_rfl
 by_cases hb : p < 0 ∨ 4 < p ∨ v < 3 ∨ 8 < v ∨ sl < p ∨ 64 < sl ∨ l.length < 1 ∨ 16 < l.length
 · rw [show codeErr (p, v, sl, l) = 2 from if_pos hb]
   have hb : p < 0 ∨ (¬ p < 0 ∧ 4 < p) ∨ (¬ p < 0 ∧ ¬ 4 < p ∧ v < 3) ∨ (¬ p < 0 ∧ ¬ 4 < p ∧ ¬ v < 3 ∧ 8 < v) ∨ (¬ p < 0 ∧ ¬ 4 < p ∧ ¬ v < 3 ∧ ¬ 8 < v ∧ sl < p) ∨ (¬ p < 0 ∧ ¬ 4 < p ∧ ¬ v < 3 ∧ ¬ 8 < v ∧ ¬ sl < p ∧ 64 < sl) ∨ (¬ p < 0 ∧ ¬ 4 < p ∧ ¬ v < 3 ∧ ¬ 8 < v ∧ ¬ sl < p ∧ ¬ 64 < sl ∧ l.length = 0) ∨ (¬ p < 0 ∧ ¬ 4 < p ∧ ¬ v < 3 ∧ ¬ 8 < v ∧ ¬ sl < p ∧ ¬ 64 < sl ∧ ((l.length : Int) == 0) = false ∧ 16 < (l.length : Int)) := by simp only [beq_eq_false_iff_ne]; omega
   clear hC
   rcases hb with h1 | ⟨h1, h2⟩ | ⟨h1, h2, h3⟩ | ⟨h1, h2, h3, h4⟩ | ⟨h1, h2, h3, h4, h5⟩ | ⟨h1, h2, h3, h4, h5, h6⟩ | ⟨h1, h2, h3, h4, h5, h6, h7⟩ | ⟨h1, h2, h3, h4, h5, h6, h7, h8⟩
   all_goals
    (try rw [h7])
    go_enter Try.func58, Try.ntmps58
    go_wp2
    go_returns
    exact ⟨⟨_, _, rfl⟩, ((Below.refl _ _).alloc (Nat.le_refl _) _).alloc (by rw [World.size_alloc]; omega) _⟩
 · obtain ⟨FE, hFE⟩ : ∃ FE, blocksErr v sl 400 l = FE := ⟨_, rfl⟩
   rw [show codeErr (p, v, sl, l) = FE from (if_neg hb).trans hFE]
   have HFE := aM hFE
   have HC := aM hC
   have h1 : ¬ p < 0 := by omega
   have h2 : ¬ 4 < p := by omega
   have h3 : ¬ v < 3 := by omega
   have h4 : ¬ 8 < v := by omega
   have h5 : ¬ sl < p := by omega
   have h6 : ¬ 64 < sl := by omega
   have h7 : ((l.length : Int) == 0) = false := by simp only [beq_eq_false_iff_ne]; omega
   have h8 : ¬ 16 < (l.length : Int) := by omega
   clear hFE hb hC
   obtain ⟨W0, hW0⟩ : ∃ W0, W0 = (w.alloc (.cells #[.int .i64 p, .int .i64 v, .int .i64 sl, .slice A l.length c] 54)).alloc (.cells #[.int .i64 0, .int .i64 0, .int .i64 0] 75) := ⟨_, rfl⟩
   have HX := aM (show ∀ W', Below (w.heap.size + 2) W0 W' → W'.cell? ⟨w.heap.size + 1, 0, none⟩ = some (.int .i64 0) ∧ W'.cell? ⟨w.heap.size + 1, 1, none⟩ = some (.int .i64 0) ∧ W'.cell? ⟨w.heap.size + 1, 2, none⟩ = some (.int .i64 0) ∧ W'.frozen? ⟨w.heap.size + 1, 0, none⟩ = false ∧ W'.frozen? ⟨w.heap.size + 1, 1, none⟩ = false ∧ W'.frozen? ⟨w.heap.size + 1, 2, none⟩ = false from fun W' h => by
    subst hW0
    obtain ⟨g, g'⟩ := two_cells h
    exact ⟨cell_at g' 0 _ rfl, cell_at g' 1 _ rfl, cell_at g' 2 _ rfl, blk_frozen g' 0, blk_frozen g' 1, blk_frozen g' 2⟩)
   have HF := aM (show W0.cell? ⟨w.heap.size, 0, none⟩ = some (.int .i64 p) ∧ W0.cell? ⟨w.heap.size, 1, none⟩ = some (.int .i64 v) ∧ W0.cell? ⟨w.heap.size, 2, none⟩ = some (.int .i64 sl) ∧ W0.cell? ⟨w.heap.size, 3, none⟩ = some (.slice A l.length c) from by
    subst hW0
    obtain ⟨g, g'⟩ := two_cells (Below.refl _ _)
    exact ⟨cell_at g 0 _ rfl, cell_at g 1 _ rfl, cell_at g 2 _ rfl, cell_at g 3 _ rfl⟩)
   have HA := aM (show Below w.heap.size w W0 by rw [hW0]; exact ((Below.refl _ _).alloc (Nat.le_refl _) _).alloc (by rw [World.size_alloc]; omega) _)
   have HSZ := aM (show W0.heap.size = w.heap.size + 2 by rw [hW0, World.size_alloc, World.size_alloc])
   obtain ⟨f0, f1, f2, f3⟩ := HF.out
   go_enter Try.func58, Try.ntmps58
   go_upto_region 1 with fail
   rw [← hW0]
   clear hW0
   go_wp2_with (go_at_call 89; refine (rblocks_calls l v sl 400 A c _ (Kd.C_below HC.out HA.out) hll (by decide)).mono ?_; rintro _ w2 ⟨⟨x9, y9, rfl⟩, hb⟩; rw [HFE.out]; have HZ2 := aM (show Below (w.heap.size + 2) W0 w2 by rw [← HSZ.out]; exact hb); clear hb f0 f1 f2 f3; obtain ⟨r0, r1, r2, r3, r4, r5⟩ := HX.out w2 HZ2.out)
   (have q := fault_set r0 r1 r2; have q0 := fun x y z => (q x y z).1; have q1 := fun x y z => (q x y z).2.1; have q2 := fun x y z => (q x y z).2.2; clear q; (try simp only [Exit.inBlock, Exit.then]); refine bodyPost_ret (by simp [results, Try.results58, go_sem, q0, q1, q2]; try rfl) rfl ?_)
   exact ⟨⟨_, _, rfl⟩, below_set (HA.out.trans (HZ2.out.mono (by omega))) (by omega) _ _ _⟩
end Go.Proofs.Ytnckonglodmfeaa.Ik
namespace Go.Proofs.Ytnckonglodmfeaa.Ik
open Ls Go.RowKit Go.Proofs.YtnckonglodmfeaaW.PrintWords Go.Proofs.YtnckonglodmfeaaW.PrintLast Go.Proofs.YtnckonglodmfeaaW.PrintMore B R S Is Js
structure QgS (T : Nat) (Z : Array Value) (w0 W : World) (g b gb : Nat) (s : St) (F : Array Value) : Prop where
 rd : Rq W g b s
 t : Tg T Z w0 W gb F
 hg : w0.heap.size < g
 hgb : g < gb
 hbb : b < gb
section
variable {T : Nat} {Z : Array Value} {w0 W W' : World} {g b gb : Nat} {s s' : St} {F : Array Value}
theorem QgS.stepT (h : QgS T Z w0 W g b gb s F) (hk : Keep (· = g) W W') : Tg T Z w0 W' gb F := by
 have h1 := h.hg
 have h2 := h.hgb
 exact h.t.keep hk (fun e => by have e : w0.heap.size = g := e; omega) (fun e => by have e : gb = g := e; omega) (fun i e => by have e : i = g := e; omega)
theorem QgS.step (h : QgS T Z w0 W g b gb s F) (hk : Keep (· = g) W W') (hr : Rq W' g b s') : QgS T Z w0 W' g b gb s' F := ⟨hr, h.stepT hk, h.hg, h.hgb, h.hbb⟩
theorem QgS.set (h : QgS T Z w0 W g b gb s F) (j : Nat) (x : Value) : QgS T Z w0 (W.setCell ⟨gb, j, none⟩ x) g b gb s (F.setIfInBounds j x) := by
 have h1 := h.hg
 have h2 := h.hgb
 have h3 := h.hbb
 exact ⟨h.rd.keep (S := (· = gb)) ((Keep.refl _ _).setCell ⟨gb, j, none⟩ x (fun _ => rfl)) (fun e => by have e : g = gb := e; omega) (fun e => by have e : b = gb := e; omega), h.t.set j x, h1, h2, h3⟩
end
abbrev QC (w0 W : World) (g b gb : Nat) (s : St) (F : Array Value) : Prop := QgS 54 #[.int .i64 0, .int .i64 0, .int .i64 0, .slice none 0 0] w0 W g b gb s F
set_option maxHeartbeats 4000000 in
set_option maxRecDepth 100000 in
theorem qread_code (A : Option Addr) (c : Nat) (l : List Int) (w : World) (hC : kU8.C w A l.length l) (hll : l.length ≤ 1000000) (hby : By l) (hA : ∀ a, A = some a → a.block < w.heap.size) (hlc : l.length ≤ c) :
 Calls Try.prog 64 #[.slice A l.length c] w fun e w' => CodRet w' w.heap.size (sCod l) e ∧ Below w.heap.size w w' := by
 have mixed : Try.prog.follows .mixedOrders = true := by kernel_rfl
 have hff := fault_field
 have HC := aM hC
 have HBY := aM hby
 obtain ⟨p, s1, hp⟩ : ∃ p s1, sBelow 4096 (l, 0) = (p, s1) := ⟨_, _, rfl⟩
 obtain ⟨v, s2, hv⟩ : ∃ v s2, sBelow 4096 s1 = (v, s2) := ⟨_, _, rfl⟩
 obtain ⟨sl, s3, hsl⟩ : ∃ sl s3, sBelow 4096 s2 = (sl, s3) := ⟨_, _, rfl⟩
 obtain ⟨B, s4, hB⟩ : ∃ B s4, sBlks 400 s3 = (B, s4) := ⟨_, _, rfl⟩
 obtain ⟨E, hE⟩ : ∃ E, ended s4.1 s4.2 = E := ⟨_, rfl⟩
 have hF := sCod_eq hp hv hsl hB hE
 have HCD := aM (show E = 0 → s4.2 = 0 from fun h => ended_ok (by rw [hE]; exact h))
 have HBL := aM (show B.length ≤ 16 from by
  have a := sbelow_by (m := 4096) (s := (l, 0)) hby
  rw [hp] at a
  have a := sbelow_by (m := 4096) (s := s1) a
  rw [hv] at a
  have a := sbelow_by (m := 4096) (s := s2) a
  rw [hsl] at a
  have h := blks_len16 400 a
  rw [hB] at h
  exact h)
 obtain ⟨X, hX⟩ : ∃ X : Int, (if E = 0 then (if codeErr (p, v, sl, B) = 0 then 0 else 30) else E) = X := ⟨_, rfl⟩
 rw [hX] at hF
 rw [hF]
 have HXX := aM hX
 have HP := aM hp
 have HV := aM hv
 have HSL := aM hsl
 have HB := aM hB
 have HE := aM hE
 obtain ⟨b, hbA, hbg, hbl⟩ : ∃ b, (∀ a, A = some a → a.block = b) ∧ b ≠ w.heap.size + 1 ∧ b < w.heap.size + 1 := by
  cases A with
  | none => exact ⟨w.heap.size, (fun a e => by cases e), by omega, by omega⟩
  | some a => exact ⟨a.block, fun a' e => by injection e with e; rw [e], by have := hA a rfl; omega, by have := hA a rfl; omega⟩
 have HI := aM (show QC w (((((w.alloc (.cells #[.int .i64 0, .int .i64 0, .int .i64 0, .slice none 0 0] 54))).alloc (.cells #[.slice A l.length c, .int .i64 0] 107))).alloc (.cells #[.int .i64 0, .int .i64 0, .int .i64 0, .slice none 0 0] 54)) (w.heap.size + 1) b (w.heap.size + 2) (l, 0) #[.int .i64 0, .int .i64 0, .int .i64 0, .slice none 0 0] from by
  have z1 : ((w.alloc (.cells #[.int .i64 0, .int .i64 0, .int .i64 0, .slice none 0 0] 54))).heap.size = w.heap.size + 1 := World.size_alloc _ _
  have z2 : ((((w.alloc (.cells #[.int .i64 0, .int .i64 0, .int .i64 0, .slice none 0 0] 54))).alloc (.cells #[.slice A l.length c, .int .i64 0] 107))).heap.size = w.heap.size + 2 := by rw [World.size_alloc, z1]
  refine ⟨⟨⟨A, c, ?_, hlc, hbA, Kd.C_alloc (Kd.C_alloc (Kd.C_alloc HC.out _) _) _, hbg⟩, HBY.out, by rw [World.size_alloc, z2]; omega⟩, ⟨?_, ?_, (((Below.refl w.heap.size w).alloc (Nat.le_refl _) _).alloc (by rw [z1]; omega) _).alloc (by rw [z2]; omega) _, by omega⟩, Nat.lt_succ_self _, by omega, by omega⟩
  · rw [heap_alloc_old _ _ (by rw [z2]; omega), ← z1, heap_alloc_new]
  · rw [heap_alloc_old _ _ (by rw [z2]; omega), heap_alloc_old _ _ (by rw [z1]; omega), heap_alloc_new]
  · rw [← z2, heap_alloc_new])
 obtain ⟨WA, hWA⟩ : ∃ WA, WA = (((((w.alloc (.cells #[.int .i64 0, .int .i64 0, .int .i64 0, .slice none 0 0] 54))).alloc (.cells #[.slice A l.length c, .int .i64 0] 107))).alloc (.cells #[.int .i64 0, .int .i64 0, .int .i64 0, .slice none 0 0] 54)) := ⟨_, rfl⟩
 rw [← hWA] at HI
 have HWA := aM hWA
 clear hWA hC hby hp hv hsl hB hE hF hX
 go_enter Try.func64, Try.ntmps64
 go_upto_region 3 with fail
 rw [← HWA.out]
 clear HWA
 obtain ⟨⟨⟨q0, q1, q2, q3⟩, qz⟩, ⟨x0, x1, x2, x3⟩, xz⟩ := TC.cells HI.out.t rfl
 go_upto_region 6 with (go_at_call 53; (first | (refine (rq_below (w.heap.size + 1) b _ 4096 _ (HI.out).rd (by decide) (by decide)).mono ?_; rintro _ w2 ⟨rfl, hd, hk, -⟩; rw [HP.out] at hd ⊢; have HI2 := aM (QgS.step HI.out hk hd)) | (refine (rq_below (w.heap.size + 1) b _ 4096 _ ((HI.out.set 0 (.int .i64 p))).rd (by decide) (by decide)).mono ?_; rintro _ w2 ⟨rfl, hd, hk, -⟩; rw [HV.out] at hd ⊢; have HI2 := aM (QgS.step (HI.out.set 0 (.int .i64 p)) hk hd)) | (refine (rq_below (w.heap.size + 1) b _ 4096 _ ((HI.out.set 1 (.int .i64 v))).rd (by decide) (by decide)).mono ?_; rintro _ w2 ⟨rfl, hd, hk, -⟩; rw [HSL.out] at hd ⊢; have HI2 := aM (QgS.step (HI.out.set 1 (.int .i64 v)) hk hd))); clear HI q0 q1 q2 q3 qz x0 x1 x2 x3 xz; have HI := HI2; clear HI2 hd hk; obtain ⟨⟨⟨q0, q1, q2, q3⟩, qz⟩, ⟨x0, x1, x2, x3⟩, xz⟩ := TC.cells HI.out.t rfl)
 have hset := HI.out.set 2 (.int .i64 sl)
 generalize w2.setCell ⟨w.heap.size + 2, 2, none⟩ (.int .i64 sl) = WB at hset ⊢
 clear HI
 have HI := aM (show QC w WB (w.heap.size + 1) b (w.heap.size + 2) s3 #[.int .i64 p, .int .i64 v, .int .i64 sl, .slice none 0 0] from hset)
 clear q0 q1 q2 q3 qz x0 x1 x2 x3 xz hset
 obtain ⟨⟨⟨q0, q1, q2, q3⟩, qz⟩, ⟨x0, x1, x2, x3⟩, xz⟩ := TC.cells HI.out.t rfl
 go_upto_region 8 with (first
  | (go_at_call 96; refine (qread_blocks (w.heap.size + 1) b s3 400 _ HI.out.rd HI.out.rd.1.lt (by decide) (by decide)).mono ?_; rintro _ w5 ⟨vb, bs, rfl, hr, hbs, hd, hk⟩; obtain ⟨Ab, cb, rfl, -, -⟩ := Kd.R_reads hr; obtain ⟨nb, hnb⟩ : ∃ n, bs.length = n := ⟨_, rfl⟩; rw [hnb] at hr ⊢; rw [HB.out] at hbs hd; have HLW := aM (blk_lt HI.out.t.bx); have HI5 := aM (HI.out.step hk hd); have HR := aM (Kd.R_mono (Kd.R_bound hr) (ok' := fun k => WB.heap.size ≤ k) (fun k hk => hk.2.1)); have HBS := aM hbs; have HNB := aM hnb; clear HI q0 q1 q2 q3 qz x0 x1 x2 x3 xz; clear hr hbs hd hk hnb; obtain ⟨⟨⟨q0, q1, q2, q3⟩, qz⟩, ⟨x0, x1, x2, x3⟩, xz⟩ := TC.cells HI5.out.t rfl)
  | (go_at_call 97; have HI6 := aM (HI5.out.set 3 (.slice Ab nb cb)); refine (rq_end (w.heap.size + 1) b s4 _ HI6.out.rd).mono ?_; rintro _ w6 ⟨rfl, hk, -⟩; rw [HE.out]; have HT7 := aM (show TC w w6 (w.heap.size + 2) _ from HI6.out.stepT hk); have HR6 := aM (Kd.R_step HR.out (fun k hk' hl => (hk.block k (by rw [size_set]; exact hl) (fun e => by have e : k = w.heap.size + 1 := e; have := HLW.out; omega)).trans (Below.heap_setCell _ _ _ _ (by show k ≠ w.heap.size + 2; have := HLW.out; omega)))); clear hk q0 q1 q2 q3 qz x0 x1 x2 x3 xz; obtain ⟨⟨⟨q0, q1, q2, q3⟩, qz⟩, ⟨x0, x1, x2, x3⟩, xz⟩ := TC.cells HT7.out rfl))
 obtain rfl := HNB.out
 have HC6 := aM (show kBlk.C w6 Ab bs.length bs from by
  obtain ⟨A', c', e, -, hC⟩ := Kd.R_reads HR6.out
  injection e with e1 e2 e3
  subst e1
  exact hC)
 have hlw := HLW.out
 clear HR HI5 HI6 HNB HLW
 by_cases hE0 : E = 0
 · subst hE0
   have hbs : bs = B := HBS.out (HCD.out rfl)
   subst hbs
   have hl16 := HBL.out
   obtain ⟨FE, hFE⟩ : ∃ FE, codeErr (p, v, sl, bs) = FE := ⟨_, rfl⟩
   have HFE := aM hFE
   clear hFE
   by_cases hF0 : FE = 0
   · subst hF0
     go_wp2_with (go_at_call 58; refine (rcode_calls p v sl bs Ab cb _ HC6.out (by omega)).mono ?_; rintro _ w7 ⟨⟨x9, y9, rfl⟩, hb⟩; rw [HFE.out]; have HT8 := aM (HT7.out.grow hb); have HB7 := aM hb; clear hb q0 q1 q2 q3 qz x0 x1 x2 x3 xz; obtain ⟨⟨⟨q0, q1, q2, q3⟩, qz⟩, ⟨x0, x1, x2, x3⟩, xz⟩ := TC.cells HT8.out rfl)
     (have rr := HT8.out.res; have p0 := fun x0 x1 x2 x3 => cell_at (put4 rr x0 x1 x2 x3) 0 _ rfl; have p1 := fun x0 x1 x2 x3 => cell_at (put4 rr x0 x1 x2 x3) 1 _ rfl; have p2 := fun x0 x1 x2 x3 => cell_at (put4 rr x0 x1 x2 x3) 2 _ rfl; have p3 := fun x0 x1 x2 x3 => cell_at (put4 rr x0 x1 x2 x3) 3 _ rfl; (try simp only [Exit.inBlock, Exit.then]); refine bodyPost_ret (by simp [results, Try.results64, go_sem, p0, p1, p2, p3]; try rfl) rfl ?_)
     refine ⟨?_, HT8.out.below.trans (keep_below (put4_keep _ _ _ _) HT8.out.below.size (fun i e => by omega))⟩
     rw [show X = 0 from by rw [← HXX.out]; simp [HFE.out]]
     refine ⟨p, v, sl, _, bs, rfl, Kd.R_mono (Kd.R_step (Kd.R_lower (Kd.R_below HR6.out HB7.out) (by omega)) (fun k hk hl => (put4_keep _ _ _ _).block k hl (fun e => by omega))) (fun _ _ => trivial), .inl ⟨rfl, rfl⟩⟩
   · have hcn : (FE != 0) = true := bne_iff_ne.mpr hF0
     have hcb : (FE == 0) = false := beq_eq_false_iff_ne.mpr hF0
     have HF0 := aM hF0
     clear hF0
     go_wp2_with (go_at_call 58; refine (rcode_calls p v sl bs Ab cb _ HC6.out (by omega)).mono ?_; rintro _ w7 ⟨⟨x9, y9, rfl⟩, hb⟩; rw [HFE.out]; have HT8 := aM (HT7.out.grow hb); have HB7 := aM hb; clear hb q0 q1 q2 q3 qz x0 x1 x2 x3 xz; obtain ⟨⟨⟨q0, q1, q2, q3⟩, qz⟩, ⟨x0, x1, x2, x3⟩, xz⟩ := TC.cells HT8.out rfl)
     (have rr := HT8.out.res; have p0 := fun x0 x1 x2 x3 => cell_at (put4 rr x0 x1 x2 x3) 0 _ rfl; have p1 := fun x0 x1 x2 x3 => cell_at (put4 rr x0 x1 x2 x3) 1 _ rfl; have p2 := fun x0 x1 x2 x3 => cell_at (put4 rr x0 x1 x2 x3) 2 _ rfl; have p3 := fun x0 x1 x2 x3 => cell_at (put4 rr x0 x1 x2 x3) 3 _ rfl; (try simp only [Exit.inBlock, Exit.then]); refine bodyPost_ret (by simp [results, Try.results64, go_sem, p0, p1, p2, p3]; try rfl) rfl ?_)
     refine ⟨?_, HT8.out.below.trans (keep_below (put4_keep _ _ _ _) HT8.out.below.size (fun i e => by omega))⟩
     rw [show X = 30 from by rw [← HXX.out]; simp [HFE.out, HF0.out]]
     exact ⟨0, 0, 0, _, [], rfl, Kd.R_nil _ _ _ _ _, .inr ⟨(by decide : (30 : Int) ≠ 0), rfl, rfl, rfl, rfl⟩⟩
 · have hcn : (E != 0) = true := bne_iff_ne.mpr hE0
   have hcb : (E == 0) = false := beq_eq_false_iff_ne.mpr hE0
   have HE0 := aM hE0
   clear hE0
   go_wp2
   (have rr := HT7.out.res; have p0 := fun x0 x1 x2 x3 => cell_at (put4 rr x0 x1 x2 x3) 0 _ rfl; have p1 := fun x0 x1 x2 x3 => cell_at (put4 rr x0 x1 x2 x3) 1 _ rfl; have p2 := fun x0 x1 x2 x3 => cell_at (put4 rr x0 x1 x2 x3) 2 _ rfl; have p3 := fun x0 x1 x2 x3 => cell_at (put4 rr x0 x1 x2 x3) 3 _ rfl; (try simp only [Exit.inBlock, Exit.then]); refine bodyPost_ret (by simp [results, Try.results64, go_sem, p0, p1, p2, p3]; try rfl) rfl ?_)
   refine ⟨?_, HT7.out.below.trans (keep_below (put4_keep _ _ _ _) HT7.out.below.size (fun i e => by omega))⟩
   rw [show X = E from by rw [← HXX.out]; exact if_neg HE0.out]
   exact ⟨0, 0, 0, _, [], rfl, Kd.R_nil _ _ _ _ _, .inr ⟨HE0.out, rfl, rfl, rfl, rfl⟩⟩
end Go.Proofs.Ytnckonglodmfeaa.Ik
namespace Go.Proofs.Ytnckonglodmfeaa.Ik
open Ls Lc Go.RowKit Go.Proofs.YtnckonglodmfeaaW.PrintWords Go.Proofs.YtnckonglodmfeaaW.PrintLast Go.Proofs.YtnckonglodmfeaaW.PrintMore B R S Is
abbrev Pr := Int × Int
abbrev Crt := List (List Pr)
abbrev kP : Kd Pr := Kd.pair kI kI
abbrev kPs : Kd (List Pr) := Kd.slice 61 kP
theorem infoP : (Try.prog.info? 61).map (fun i => (i.zero, i.size, i.bytes)) = some (some (.agg #[.int .i64 0, .int .i64 0]), 2, 16) := by kernel_rfl
theorem infoPs : (Try.prog.info? 58).map (fun i => (i.zero, i.size, i.bytes)) = some (some (.slice none 0 0), 1, 24) := by kernel_rfl
def prOk (p : Pr) : Bool := decide (0 ≤ p.1 ∧ p.1 < 4096 ∧ 0 ≤ p.2 ∧ p.2 < 4096)
def certErr (l : Crt) : Int := if 16 < l.length then 9 else if l.all (fun ps => ps.all prOk) then 0 else 2
def prL (p : Pr) : List Int := fieldsL [p.1, p.2]
def prsL (ps : List Pr) : List Int := fieldL ps.length ++ (ps.map prL).flatten
def certL (l : Crt) : List Int := fieldL l.length ++ (l.map prsL).flatten
theorem pr_len (p : Pr) : (prL p).length ≤ 20 := fields_len [p.1, p.2]
theorem pair_K {w : World} {v l : Int} {cs : List Value} (h : kP.K w (v, l) cs) : cs = [.int .i64 v, .int .i64 l] := by
 obtain ⟨c0, c1, rfl, h0, h1⟩ := h
 have e0 : c0 = [.int .i64 v] := h0
 have e1 : c1 = [.int .i64 l] := h1
 subst e0 e1
 rfl
theorem pair_cells {w : World} {A0 : Option Addr} {n0 : Nat} {m : List Pr} (h : kP.C w A0 n0 m) {j : Nat} {v l : Int} (hj : m[j]? = some (v, l)) :
 ∃ ad : Addr, A0 = some ad ∧ w.cell? (ad.add (j * 2)) = some (.int .i64 v) ∧ w.cell? ⟨(ad.add (j * 2)).block, (ad.add (j * 2)).off + 1, none⟩ = some (.int .i64 l) := by
 have hl := (List.getElem?_eq_some_iff.1 hj).1
 obtain ⟨ad, e, hc⟩ := h.2.2 (by have := h.1; omega)
 obtain ⟨cs, h1, h2, h3⟩ := hc j _ hj
 have := pair_K h2
 subst this
 have hs : kP.sz = 2 := rfl
 have g0 := h3 0 _ rfl
 have g1 := h3 1 _ rfl
 rw [hs] at g0 g1
 rw [← YtnckonglodmfeaaW.PrintWords.add_add] at g1
 exact ⟨ad, e, g0, g1⟩
theorem crt_cells {w : World} {A0 : Option Addr} {n0 : Nat} {m : Crt} (h : kPs.C w A0 n0 m) {j : Nat} {ps : List Pr} (hj : m[j]? = some ps) :
 ∃ (ad : Addr) (A : Option Addr) (c : Nat), A0 = some ad ∧ w.cell? (ad.add j) = some (.slice A ps.length c) ∧ ps.length ≤ c ∧ kP.C w A ps.length ps := by
 have hl := (List.getElem?_eq_some_iff.1 hj).1
 obtain ⟨ad, e, hc⟩ := h.2.2 (by have := h.1; omega)
 obtain ⟨cs, h1, ⟨A, c, rfl, h4, h5⟩, h3⟩ := hc j _ hj
 have g0 := h3 0 _ rfl
 rw [show kPs.sz = 1 from rfl, Nat.mul_one, Nat.add_zero] at g0
 exact ⟨ad, A, c, e, g0, h4, h5⟩
theorem all_take {α : Type} {f : α → Bool} {l : List α} {j : Nat} {x : α} (h : l[j]? = some x) : (l.take (j + 1)).all f = ((l.take j).all f && f x) := by
 rw [List.take_add_one, h, List.all_append]
 simp
theorem all_false {α : Type} {f : α → Bool} {l : List α} {j : Nat} {x : α} (h : l[j]? = some x) (hf : f x = false) : l.all f = false := by
 rw [List.all_eq_false]
 exact ⟨x, List.mem_of_getElem? h, by rw [hf]; decide⟩
set_option maxHeartbeats 4000000 in
set_option maxRecDepth 100000 in
theorem wcert_calls (l : Crt) (A : Option Addr) (c : Nat) (w : World) (hC : kPs.C w A l.length l) (hll : ∀ ps ∈ l, ps.length ≤ 1000) :
 Calls Try.prog 57 #[.slice A l.length c] w fun r w' => BytesOr (certErr l) (certErr l) (certL l) w' r ∧ Below w.heap.size w w' := by
 have mixed : Try.prog.follows .mixedOrders = true := by kernel_rfl
 have hl0 := hC.2.1
 have HC := aM hC
 have HLL := aM hll
 have HW0 := aM (show Wtr (w.alloc (.cells #[.slice none 0 0] 157)) w.heap.size [] from ⟨none, 0, heap_alloc_new _ _, Nat.le_refl _, fun a e => (by cases e), C_nil .u8 _⟩)
 have HSZ := aM (World.size_alloc w (.cells #[.slice none 0 0] 157))
 have HA := aM (show Below w.heap.size w (w.alloc (.cells #[.slice none 0 0] 157)) from (Below.refl _ _).alloc (Nat.le_refl _) _)
 clear hC hll
 by_cases h16 : 16 < l.length
 · have HE := aM (show certErr l = 9 from if_pos h16)
   rw [HE.out]
   go_enter Try.func57, Try.ntmps57
   go_wp2
   go_returns
   exact ⟨⟨fun _ => rfl, fun h => by cases h⟩, HA.out⟩
 have HE := aM (show certErr l = if l.all (fun ps => ps.all prOk) then 0 else 2 from if_neg h16)
 obtain ⟨W, hW⟩ : ∃ W, W = w.alloc (.cells #[.slice none 0 0] 157) := ⟨_, rfl⟩
 rw [← hW] at HW0 HSZ HA
 have HBL := aM (show ∀ W', Keep (· = w.heap.size) W W' → Below w.heap.size w W' from fun W' h => Keep.below_then HA.out h HA.out.size (fun i hi e => by have e : i = w.heap.size := e; omega))
 go_enter Try.func57, Try.ntmps57
 go_upto_region 4 with fail
 rw [← hW]
 clear hW
 go_wp2_with (have HWc := HW0; clear HW0; go_at_call 86; refine (nums_lit w.heap.size [] [(l.length : Int)] 1 rfl W _ HWc.out (by first | rfl | exact (World.size_alloc _ _).symm) (by simp)).mono ?_; rintro _ w1 ⟨rfl, m0, hm, hml0, hw, hk⟩; have HE_m0 := aM hm; have HK := aM hk; have HW1 := aM hw; clear hm hw hk HWc)
 have hm0 : m0.length ≤ 10 := by simpa using hml0
 clear hml0
 go_loopw [21] (fun vi wr => ∃ j : Nat, j ≤ l.length ∧ vi = .int .i64 j ∧ ∃ m : List Int, m.length ≤ 10 + 30000 * j ∧ Aside0 (m = m0 ++ ((l.take j).map prsL).flatten) ∧ Aside0 ((l.take j).all (fun ps => ps.all prOk) = true) ∧ Aside0 (Wtr wr w.heap.size m) ∧ Aside0 (Keep (· = w.heap.size) W wr)) (fun vi _ => l.length - (intOf vi).toNat)
 case atStart => exact ⟨0, by omega, rfl, m0, by omega, ⟨by simp⟩, ⟨by simp⟩, HW1, HK⟩
 case round =>
  clear HW1 HK
  obtain ⟨wo, hwo⟩ : ∃ wo, wo = wr := ⟨_, rfl⟩
  subst hwo
  obtain ⟨j, hj, rfl, m, hml, HM, HOK, HW, HK⟩ := hrel
  by_cases hjl : j < l.length
  · obtain ⟨ps, hx⟩ : ∃ x, l[j]? = some x := ⟨_, List.getElem?_eq_getElem hjl⟩
    obtain ⟨ad, A1, n1, rfl, b0, hn1, hC1⟩ := crt_cells HC.out hx
    have hp1000 := HLL.out ps (List.mem_of_getElem? hx)
    have b0 := pw_cell_below (HBL.out _ HK.out) b0
    have HC1 := aM hC1
    have HMT := aM (map_take prsL hx)
    have HAT := aM (all_take (f := fun ps => ps.all prOk) hx)
    have HX := aM hx
    clear hx hC1
    go_wp2_with (have HWc := HW; clear HW; go_at_call 86; refine (nums_lit w.heap.size m [(ps.length : Int)] 1 rfl wo _ HWc.out (by first | rfl | exact (World.size_alloc _ _).symm) (by omega)).mono ?_; rintro _ w1 ⟨rfl, m1, hm, hml1, hw, hk⟩; have HE_m1 := aM hm; have HKA := aM (HK.out.trans hk); have HW2 := aM hw; clear hm hw hk HWc b0)
    go_loopw [32] (fun vi wi => ∃ i : Nat, i ≤ ps.length ∧ vi = .int .i64 i ∧ ∃ mi : List Int, mi.length ≤ m1.length + 20 * i ∧ Aside0 (mi = m1 ++ ((ps.take i).map prL).flatten) ∧ Aside0 ((ps.take i).all prOk = true) ∧ Aside0 (Wtr wi w.heap.size mi) ∧ Aside0 (Keep (· = w.heap.size) W wi)) (fun vi _ => ps.length - (intOf vi).toNat)
    case atStart => exact ⟨0, by omega, rfl, m1, by omega, ⟨by simp⟩, ⟨by simp⟩, HW2, HKA⟩
    case round =>
     clear HW2 HKA
     obtain ⟨wi, hwi⟩ : ∃ wi, wi = wr := ⟨_, rfl⟩
     subst hwi
     obtain ⟨i, hi, rfl, mi, hmi, HMI, HOI, HWI, HKI⟩ := hrel
     by_cases hil : i < ps.length
     · obtain ⟨⟨pv, pl⟩, hq⟩ : ∃ q, ps[i]? = some q := ⟨_, List.getElem?_eq_getElem hil⟩
       obtain ⟨ad2, rfl, i0, i1⟩ := pair_cells HC1.out hq
       have i0 := pw_cell_below (HBL.out _ HKI.out) i0
       have i1 := pw_cell_below (HBL.out _ HKI.out) i1
       have HMT1 := aM (map_take prL hq)
       have HAT1 := aM (all_take (f := prOk) hq)
       have hgi := HWI.out.lt
       by_cases hok : 0 ≤ pv ∧ pv < 4096 ∧ 0 ≤ pl ∧ pl < 4096
       · have HPO := aM (show prOk (pv, pl) = true from decide_eq_true hok)
         have HPLN := aM (pr_len (pv, pl))
         obtain ⟨WB, hWB⟩ : ∃ WB, WB = wi.alloc (.cells #[.int .i64 pv, .int .i64 pl] 61) := ⟨_, rfl⟩
         have HBW := aM (show Below wi.heap.size wi WB by rw [hWB]; exact (Below.refl _ _).alloc (Nat.le_refl _) _)
         have HWB := aM (HWI.out.keep HBW.out)
         have HC2 := aM (show WB.cell? ⟨wi.heap.size, 0, none⟩ = some (.int .i64 pv) ∧ WB.cell? ⟨wi.heap.size, 1, none⟩ = some (.int .i64 pl) from by rw [hWB]; exact ⟨cell_at (heap_alloc_new _ _) 0 _ rfl, cell_at (heap_alloc_new _ _) 1 _ rfl⟩)
         have h1 : ¬ pv < 0 := by omega
         have h2 : ¬ 4096 ≤ pv := by omega
         have h3 : ¬ pl < 0 := by omega
         have h4 : ¬ 4096 ≤ pl := by omega
         clear hq hok
         go_upto_region 12 with fail
         rw [← hWB]
         clear hWB i0 i1
         obtain ⟨c0, c1⟩ := HC2.out
         go_wp2_with (have HWc := HWB; clear HWB; go_at_call 86; refine (nums_lit w.heap.size mi [pv, pl] 2 rfl WB _ HWc.out (by first | rfl | exact (World.size_alloc _ _).symm) (by omega)).mono ?_; rintro _ w2 ⟨rfl, m2, hm, hml2, hw, hk⟩; have HE_m2 := aM hm; have HW3 := aM hw; have HK3 := aM ((HKI.out.trans (Keep.of_below HBW.out)).trans hk); clear hm hw hk HWc c0 c1)
         go_roundw
         case rel => exact ⟨i + 1, by omega, by go_num, m2, by omega, ⟨by rw [HE_m2.out, HMI.out, HMT1.out, List.append_assoc]; rfl⟩, ⟨by rw [HAT1.out, HOI.out, HPO.out]; rfl⟩, HW3, HK3⟩
         case measure => simp [intOf]; omega
       · have HPO := aM (show ps.all prOk = false from all_false hq (decide_eq_false hok))
         have HE2 := aM (show certErr l = 2 from by rw [HE.out, all_false HX.out HPO.out]; rfl)
         have hbd : (pv < 0) ∨ (¬ pv < 0 ∧ 4096 ≤ pv) ∨ (¬ pv < 0 ∧ ¬ 4096 ≤ pv ∧ pl < 0) ∨ (¬ pv < 0 ∧ ¬ 4096 ≤ pv ∧ ¬ pl < 0 ∧ 4096 ≤ pl) := by omega
         clear hq hok
         rcases hbd with h1 | ⟨h1, h2⟩ | ⟨h1, h2, h3⟩ | ⟨h1, h2, h3, h4⟩
         all_goals
          go_wp2
          go_returns
          rw [HE2.out]
          exact ⟨⟨fun _ => rfl, fun h => by cases h⟩, (HBL.out _ HKI.out).alloc (HBL.out _ HKI.out).size _⟩
     · obtain rfl : i = ps.length := by omega
       have HMF := aM (show mi = m ++ prsL ps by rw [HMI.out, List.take_length, HE_m1.out]; simp [prsL, fieldsL])
       have HOF := aM (show ps.all prOk = true by have h := HOI.out; rwa [List.take_length] at h)
       go_wp2
       go_roundw
       case rel => exact ⟨j + 1, by omega, by go_num, mi, by omega, ⟨by rw [HMF.out, HM.out, HMT.out, List.append_assoc]⟩, ⟨by rw [HAT.out, HOK.out, HOF.out]; rfl⟩, HWI, HKI⟩
       case measure => simp [intOf]; omega
  · obtain rfl : j = l.length := by omega
    have HE0 := aM (show certErr l = 0 from by rw [HE.out]; have h := HOK.out; rw [List.take_length] at h; rw [h]; rfl)
    have HMF := aM (show m = certL l by rw [HM.out, List.take_length, HE_m0.out]; simp [certL, fieldsL])
    obtain ⟨A9, c9, hh9, hlc9, -, hC9⟩ := HW.out
    have hc9 := cell_at hh9 0 _ rfl
    have HC9 := aM hC9
    have HLC9 := aM hlc9
    clear hh9 hC9 hlc9
    go_wp2
    go_returns
    rw [HE0.out, ← HMF.out]
    exact ⟨⟨fun h => absurd rfl h, fun _ => ⟨A9, c9, rfl, HLC9.out, HC9.out⟩⟩, HBL.out _ HK.out⟩
end Go.Proofs.Ytnckonglodmfeaa.Ik
namespace Go.Proofs.Ytnckonglodmfeaa.Ik
open Ls Lc Go.RowKit Go.Proofs.YtnckonglodmfeaaW.PrintWords Go.Proofs.YtnckonglodmfeaaW.PrintLast Go.Proofs.YtnckonglodmfeaaW.PrintMore B R S Is Js
def sPr (s : St) : Pr × St := (((sBelow 4096 s).1, (sBelow 4096 (sBelow 4096 s).2).1), (sBelow 4096 (sBelow 4096 s).2).2)
def sPrs : Nat → St → List Pr × St
 | 0, s => ([], s)
 | n + 1, s => if (sPrs n s).2.2 = 0 then ((sPrs n s).1 ++ [(sPr (sPrs n s).2).1], (sPr (sPrs n s).2).2) else sPrs n s
def sPL (s : St) : List Pr × St := sPrs (sBelow 65536 s).1.toNat (sBelow 65536 s).2
def sCrtN : Nat → St → Crt × St
 | 0, s => ([], s)
 | n + 1, s => if (sCrtN n s).2.2 = 0 then ((sCrtN n s).1 ++ [(sPL (sCrtN n s).2).1], (sPL (sCrtN n s).2).2) else sCrtN n s
def sCert (l : List Int) : Crt × Int := ((sCrtN (sBelow 17 (l, 0)).1.toNat (sBelow 17 (l, 0)).2).1, ended (sCrtN (sBelow 17 (l, 0)).1.toNat (sBelow 17 (l, 0)).2).2.1 (sCrtN (sBelow 17 (l, 0)).1.toNat (sBelow 17 (l, 0)).2).2.2)
theorem prs_succ {n : Nat} {s : St} (h : (sPrs n s).2.2 = 0) : sPrs (n + 1) s = ((sPrs n s).1 ++ [(sPr (sPrs n s).2).1], (sPr (sPrs n s).2).2) := by rw [sPrs, if_pos h]
theorem prs_same {n : Nat} {s : St} (h : (sPrs n s).2.2 ≠ 0) : sPrs (n + 1) s = sPrs n s := by rw [sPrs, if_neg h]
theorem crt_step {x : Nat} {s1 sx si : St} {bs : Crt} {ps : List Pr} {m : Nat} {s2 : St} (h1 : (sCrtN x s1).2 = sx) (h2 : sx.2 = 0 → (sCrtN x s1).1 = bs) (hm : sBelow 65536 sx = ((m : Int), s2)) (h3 : (sPrs m s2).2 = si) (h4 : si.2 = 0 → (sPrs m s2).1 = ps) :
 (sCrtN (x + 1) s1).2 = si ∧ (si.2 = 0 → (sCrtN (x + 1) s1).1 = bs ++ [ps]) := by
 have hpl : sPL sx = sPrs m s2 := by unfold sPL; rw [hm]; rfl
 by_cases h : sx.2 = 0
 · rw [sCrtN, h1, if_pos h, hpl, h2 h]
   exact ⟨h3, fun h0 => by rw [h4 h0]⟩
 · have hs := below_stuck 65536 sx h
   rw [hm] at hs
   injection hs with e1 e2
   have hm0 : m = 0 := by omega
   subst e2 hm0
   have e3 : s2 = si := h3
   subst e3
   rw [sCrtN, h1, if_neg h]
   exact ⟨h1, fun h0 => absurd h0 h⟩
def CertRet (w' : World) (base : Nat) (x : Crt × Int) (e : Ending) : Prop :=
 ∃ v bs, e = .returned (.tuple #[v, .int .i64 x.2]) ∧ kPs.R 58 w' base (fun _ => True) v bs ∧ ((x.2 = 0 ∧ x.1 = bs) ∨ (x.2 ≠ 0 ∧ bs = []))
theorem pair_M {w : World} {base : Nat} {ok : Nat → Prop} {v l : Int} : kP.M w base ok (v, l) [.int .i64 v, .int .i64 l] := ⟨[.int .i64 v], [.int .i64 l], rfl, rfl, rfl⟩
theorem prs_M {w : World} {base : Nat} {ok : Nat → Prop} {ps : List Pr} {v : Value} (h : kP.R 61 w base ok v ps) : kPs.M w base ok ps [v] := ⟨v, rfl, h⟩
set_option maxHeartbeats 4000000 in
set_option maxRecDepth 100000 in
theorem wread_cert (A : Option Addr) (c : Nat) (l : List Int) (w : World) (hC : kU8.C w A l.length l) (hll : l.length ≤ 1000000) (hby : By l) :
 Calls Try.prog 62 #[.slice A l.length c] w fun e w' => CertRet w' w.heap.size (sCert l) e ∧ Below w.heap.size w w' := by
 have mixed : Try.prog.follows .mixedOrders = true := by kernel_rfl
 have HC := aM hC
 have HBY := aM hby
 have hr17 := below_range (m := 17) (s := (l, 0)) (by decide) hby
 obtain ⟨N, hN⟩ : ∃ N : Nat, (sBelow 17 (l, 0)).1 = (N : Int) := ⟨(sBelow 17 (l, 0)).1.toNat, by omega⟩
 obtain ⟨s1, hs1⟩ : ∃ s1, (sBelow 17 (l, 0)).2 = s1 := ⟨_, rfl⟩
 have hN16 : N ≤ 16 := by omega
 have hS : sCert l = ((sCrtN N s1).1, ended (sCrtN N s1).2.1 (sCrtN N s1).2.2) := by unfold sCert; rw [hN, hs1]; rfl
 rw [hS]
 have HN := aM hN
 have HS1 := aM hs1
 clear hC hby hr17 hN hs1 hS
 go_enter Try.func62, Try.ntmps62
 go_wp2_with (first
  | (go_at_call 93; refine (new_calls A c l _ HC.out (by omega)).mono ?_; rintro _ w1 ⟨g, b, rfl, hr, hb, hg1, hb1, hb2⟩; have HDa := aM (show Rd w1 g b (l, 0) from ⟨hr, HBY.out, hb2⟩); have HW1 := aM hb; have hgl := hr.lt; clear hr hb)
  | (go_at_call 46; refine (rd_below g b (l, 0) 17 _ HDa.out (by decide) (by decide)).mono ?_; rintro _ w2 ⟨rfl, hd, hk, -⟩; rw [HS1.out] at hd; rw [HN.out]; have HD := aM hd; have HK := aM (hk.mono (S' := fun i => i = g ∨ w1.heap.size ≤ i) (fun i _ e => .inl e)); clear hd hk HDa))
 go_loopw [5, 12] (fun vo vi wr => ∃ x : Nat, x ≤ N ∧ vi = .int .i64 x ∧ ∃ bs sx, Aside0 (kPs.R 58 wr w1.heap.size (fun _ => True) vo bs) ∧ Aside0 (Rd wr g b sx) ∧ Aside0 (bs.length = x) ∧ Aside0 ((sCrtN x s1).2 = sx ∧ (sx.2 = 0 → (sCrtN x s1).1 = bs)) ∧ Aside0 (Keep (fun i => i = g ∨ w1.heap.size ≤ i) w1 wr)) (fun _ vi _ => N - (intOf vi).toNat)
 case atStart => exact ⟨0, by omega, rfl, [], s1, ⟨Kd.R_nil _ _ _ _ _⟩, HD, ⟨rfl⟩, ⟨rfl, fun _ => rfl⟩, HK⟩
 case round =>
  clear HD HK
  obtain ⟨wo, hwo⟩ : ∃ wo, wo = wr := ⟨_, rfl⟩
  subst hwo
  obtain ⟨x, hx, rfl, bs, sx, HO, HD, HLN, HB, HK⟩ := hrel
  have hzo := HK.out.size
  by_cases hxN : x < N
  · have hrm := below_range (m := 65536) (s := sx) (by decide) HD.out.2.1
    obtain ⟨m, s2, hm⟩ : ∃ (m : Nat) (s2 : St), sBelow 65536 sx = ((m : Int), s2) := ⟨(sBelow 65536 sx).1.toNat, (sBelow 65536 sx).2, by rw [Int.toNat_of_nonneg hrm.1]⟩
    have hm6 : m < 65536 := by rw [hm] at hrm; simp only at hrm; omega
    have HM := aM hm
    have hbl : bs.length ≤ 16 := by rw [HLN.out]; omega
    clear hrm hm
    go_wp2_with (go_at_call 46; refine (rd_below g b sx 65536 _ HD.out (by decide) (by decide)).mono ?_; rintro _ wa ⟨rfl, hd, hk, hs⟩; rw [HM.out] at hd ⊢; have HD2 := aM hd; have HKa := aM hk; have HZa := aM hs; clear hd hk hs HD)
    have HOa := aM (Kd.R_step (w1 := wa) (Kd.R_mono (Kd.R_bound HO.out) (ok' := fun k => w1.heap.size ≤ k ∧ k < wo.heap.size) (fun k hk => ⟨hk.2.1, hk.2.2.1⟩)) (fun k hk hl => HKa.out.block k hl (fun e => by have e : k = g := e; omega)))
    have hza := HZa.out
    have hwa : w1.heap.size ≤ wa.heap.size := by omega
    clear hza
    go_loopw [6, 16] (fun vl vi wi => ∃ i : Nat, i ≤ m ∧ vi = .int .i64 i ∧ ∃ ps si, ps.length ≤ i ∧ Aside0 (kP.R 61 wi wa.heap.size (fun _ => True) vl ps) ∧ Aside0 (Rd wi g b si) ∧ Aside0 ((sPrs i s2).2 = si ∧ (si.2 = 0 → (sPrs i s2).1 = ps)) ∧ Aside0 (Keep (fun i => i = g ∨ wa.heap.size ≤ i) wa wi)) (fun _ vi _ => m - (intOf vi).toNat)
    case atStart => exact ⟨0, by omega, rfl, [], s2, by simp, ⟨Kd.R_nil _ _ _ _ _⟩, HD2, ⟨rfl, fun _ => rfl⟩, ⟨Keep.refl _ _⟩⟩
    case round =>
     clear HD2
     obtain ⟨wi, hwi⟩ : ∃ wi, wi = wr := ⟨_, rfl⟩
     subst hwi
     obtain ⟨i, hi, rfl, ps, si, hpl, HV, HDi, HS, HKi⟩ := hrel
     obtain ⟨Al, cl, hvl, -, -⟩ := Kd.R_reads HV.out
     obtain ⟨nl, hnl⟩ : ∃ nl, ps.length = nl := ⟨_, rfl⟩
     rw [hnl] at hvl
     subst hvl
     have HNL := aM hnl
     have hzi := HKi.out.size
     have hg1' := hgl
     by_cases him : i < m
     · by_cases hc : si.2 = 0
       · have HCD := aM hc
         obtain ⟨pv, sa, ha⟩ : ∃ pv sa, sBelow 4096 si = (pv, sa) := ⟨_, _, rfl⟩
         obtain ⟨pl, sb, hb⟩ : ∃ pl sb, sBelow 4096 sa = (pl, sb) := ⟨_, _, rfl⟩
         have HPA := aM ha
         have HPB := aM hb
         have HNX := aM (show sPrs (i + 1) s2 = (ps ++ [(pv, pl)], sb) from by
          rw [prs_succ (by rw [HS.out.1]; exact hc), HS.out.1, HS.out.2 hc]
          simp only [sPr, ha, hb])
         clear hc ha hb hnl
         go_wp2_with (first
          | (go_at_call 99; refine (rd_code g b si _ HDi.out).mono ?_; rintro _ _ ⟨rfl, rfl⟩; rw [HCD.out])
          | (go_at_call 46; refine (rd_below g b si 4096 _ HDi.out (by decide) (by decide)).mono ?_; rintro _ wb ⟨rfl, hd, hk, -⟩; rw [HPA.out] at hd ⊢; have HDb := aM hd; have HKb := aM hk; clear hd hk HDi)
          | (go_at_call 46; refine (rd_below g b sa 4096 _ HDb.out (by decide) (by decide)).mono ?_; rintro _ wc ⟨rfl, hd, hk, -⟩; rw [HPB.out] at hd ⊢; have HDc := aM hd; have HKc := aM (HKb.out.trans hk); clear hd hk HDb)
          | ((with_reducible refine gate_builtin (b := .append) (xs := #[.tmp 21, .tmp 27]) rfl ?_); at_builtin; refine Kd.R_append kP (w0 := wc) wa.heap.size rfl (.tmp 21) (.tmp 27) 58 61 (.agg #[.int .i64 0, .int .i64 0]) 16 rfl Try.underlying58 infoP rfl (show 0 < 2 by decide) (by decide) (.slice Al nl cl) ps (pv, pl) [.int .i64 pv, .int .i64 pl] (fun _ => True) (fun _ => False) rfl rfl pair_M (fun _ h => h.elim) (fun _ _ => trivial) (Kd.R_mono (Kd.R_step (Kd.R_mono (Kd.R_bound HV.out) (ok' := fun k => wa.heap.size ≤ k) (fun k hk => hk.2.1)) (fun k hk hl => HKc.out.block k hl (fun e => by have e : k = g := e; omega))) (fun _ _ => trivial)) (Below.refl _ _) (Nat.le_trans hzi HKc.out.size) (by omega) ?_; intro v4 w4 ho4 hb4 hg4 hat4; have HO4 := aM ho4; have HB4 := aM hb4; clear ho4 hb4 hg4 hat4))
         go_roundw
         case rel =>
          have hgb : b < wa.heap.size := by omega
          have hkk : Keep (fun i => i = g ∨ wa.heap.size ≤ i) wc w4 := (keep_of_below HB4.out).mono (fun i _ h => .inr h)
          exact ⟨i + 1, by omega, by go_num, _, sb, by simp; omega, HO4, ⟨HDc.out.keep (keep_of_below HB4.out) (by omega) (by omega)⟩, ⟨by rw [HNX.out], fun _ => by rw [HNX.out]⟩, ⟨(HKi.out.trans (HKc.out.mono (fun i _ e => .inl e))).trans hkk⟩⟩
         case measure => simp [intOf]; omega
       · have hcb : (si.2 == 0) = false := beq_eq_false_iff_ne.mpr hc
         have HNX := aM (show sPrs (i + 1) s2 = sPrs i s2 from prs_same (by rw [HS.out.1]; exact hc))
         clear hc hnl
         go_wp2_with (go_at_call 99; refine (rd_code g b si _ HDi.out).mono ?_; rintro _ _ ⟨rfl, rfl⟩)
         go_roundw
         case rel => exact ⟨i + 1, by omega, by go_num, ps, si, by omega, HV, HDi, ⟨by rw [HNX.out]; exact HS.out⟩, HKi⟩
         case measure => simp [intOf]; omega
     · obtain rfl : i = m := by omega
       have HNX := aM (crt_step HB.out.1 HB.out.2 HM.out HS.out.1 HS.out.2)
       clear hnl
       go_wp2_with ((with_reducible refine gate_builtin (b := .append) (xs := #[.tmp 30, .tmp 32]) rfl ?_); at_builtin; refine Kd.R_append kPs (w0 := wi) w1.heap.size rfl (.tmp 30) (.tmp 32) 55 58 (.slice none 0 0) 24 rfl Try.underlying55 infoPs rfl (show 0 < 1 by decide) (by decide) u5 bs ps [.slice Al nl cl] (fun _ => True) (fun k => wa.heap.size ≤ k) rfl rfl (prs_M (Kd.R_lower (Kd.R_mono (Kd.R_bound HV.out) (fun k hk => hk.2.1)) hwa)) (fun k hk => ⟨trivial, fun e => by have h := ((Kd.R_bound HOa.out).1 k e.symm).1.2; have := HZa.out; omega⟩) (fun _ _ => trivial) (Kd.R_mono (Kd.R_step HOa.out (fun k hk hl => HKi.out.block k hl (fun e => by have := HZa.out; omega))) (fun _ _ => trivial)) (Below.refl _ _) (Nat.le_trans hwa hzi) (by omega) ?_; intro v4 w4 ho4 hb4 hg4 hat4; have HO4 := aM ho4; have HB4 := aM hb4; clear ho4 hb4 hg4 hat4)
       go_roundw
       case rel =>
        exact ⟨x + 1, by omega, by go_num, _, si, HO4, ⟨HDi.out.keep (keep_of_below HB4.out) (by omega) (by omega)⟩, ⟨by rw [List.length_append, HLN.out]; rfl⟩, HNX, ⟨(HK.out.trans (HKa.out.mono (fun i _ e => .inl e))).trans ((HKi.out.mono (fun i _ h => h.imp id (fun h => Nat.le_trans hwa h))).trans ((keep_of_below HB4.out).mono (fun i _ h => .inr h)))⟩⟩
       case measure => simp [intOf]; omega
  · obtain rfl : x = N := by omega
    obtain ⟨E, hE⟩ : ∃ E, ended sx.1 sx.2 = E := ⟨_, rfl⟩
    have HE := aM hE
    have HBW := aM (show ∀ W', Keep (· = g) wo W' → Below w.heap.size w W' from fun W' h => HW1.out.trans ((HK.out.trans (h.mono (fun i _ e => .inl e))).below HW1.out.size (fun i h1 h2 => by omega)))
    have HXX := aM (show ended (sCrtN x s1).2.1 (sCrtN x s1).2.2 = E from by rw [HB.out.1]; exact hE)
    obtain ⟨Ao, co, hvo, -, -⟩ := Kd.R_reads HO.out
    obtain ⟨no, hno⟩ : ∃ no, bs.length = no := ⟨_, rfl⟩
    rw [hno] at hvo
    subst hvo
    have HOK := aM (show E = 0 → (sCrtN x s1).1 = bs from fun h => HB.out.2 (ended_ok (by rw [hE]; exact h)))
    clear hE hno
    by_cases hE0 : E = 0
    · subst hE0
      go_wp2_with (go_at_call 50; refine (rd_end g b sx _ HD.out).mono ?_; rintro _ w6 ⟨rfl, hk, -⟩; rw [HE.out]; have HK6 := aM hk; clear hk)
      go_returns
      rw [HXX.out]
      have hz := HW1.out.size
      refine ⟨⟨_, bs, rfl, ?_, .inl ⟨rfl, HOK.out (by trivial)⟩⟩, HBW.out _ HK6.out⟩
      exact Kd.R_lower (Kd.R_mono (Kd.R_step (Kd.R_mono (Kd.R_bound HO.out) (ok' := fun k => w1.heap.size ≤ k) (fun k hk => hk.2.1)) (fun k hk hl => HK6.out.block k hl (fun e => by have e : k = g := e; omega))) (fun _ _ => trivial)) hz
    · have hcn : (E != 0) = true := bne_iff_ne.mpr hE0
      have hcb : (E == 0) = false := beq_eq_false_iff_ne.mpr hE0
      have HE0 := aM hE0
      clear hE0
      go_wp2_with (go_at_call 50; refine (rd_end g b sx _ HD.out).mono ?_; rintro _ w6 ⟨rfl, hk, -⟩; rw [HE.out]; have HK6 := aM hk; clear hk)
      go_returns
      rw [HXX.out]
      exact ⟨⟨_, [], rfl, Kd.R_nil _ _ _ _ _, .inr ⟨HE0.out, rfl⟩⟩, HBW.out _ HK6.out⟩
end Go.Proofs.Ytnckonglodmfeaa.Ik
namespace Go.Proofs.Ytnckonglodmfeaa.Ik
open Ls Go.RowKit Go.Proofs.YtnckonglodmfeaaW.PrintWords Go.Proofs.YtnckonglodmfeaaW.PrintLast Go.Proofs.YtnckonglodmfeaaW.PrintMore B R S Is Js
theorem prs_stuck {n : Nat} {s : St} (h : (sPrs n s).2.2 ≠ 0) (d : Nat) : sPrs (n + d) s = sPrs n s := by
 induction d with
 | zero => rfl
 | succ d ih => rw [← Nat.add_assoc, prs_same (by rw [ih]; exact h), ih]
theorem crt_stuck {n : Nat} {s : St} (h : (sCrtN n s).2.2 ≠ 0) (d : Nat) : sCrtN (n + d) s = sCrtN n s := by
 induction d with
 | zero => rfl
 | succ d ih => rw [← Nat.add_assoc, sCrtN, if_neg (by rw [ih]; exact h), ih]
structure PbS (w0 W : World) (g b gp : Nat) (s : St) (F : Array Value) : Prop where
 rd : Rq W g b s
 bx : W.heap[gp]? = some (.cells F 61 (0, 0))
 kp : Keep (fun i => i = g ∨ i = gp) w0 W
 hg : g ≠ gp
 hb : b ≠ gp
section
variable {w0 W W' : World} {g b gp : Nat} {s s' : St} {F : Array Value}
theorem PbS.step (h : PbS w0 W g b gp s F) (hk : Keep (· = g) W W') (hr : Rq W' g b s') : PbS w0 W' g b gp s' F :=
 ⟨hr, (hk.block gp (blk_lt h.bx) (fun e => h.hg (Eq.symm e))).trans h.bx, h.kp.trans (hk.mono (fun i _ e => .inl e)), h.hg, h.hb⟩
theorem PbS.set (h : PbS w0 W g b gp s F) (j : Nat) (x : Value) : PbS w0 (W.setCell ⟨gp, j, none⟩ x) g b gp s (F.setIfInBounds j x) :=
 ⟨h.rd.setb h.hg h.hb j x, heap_setCell_same W gp j F _ _ h.bx, h.kp.trans (((Keep.refl (fun i => i = gp) _).setCell ⟨gp, j, none⟩ x (fun _ => rfl)).mono (fun i _ e => .inr e)), h.hg, h.hb⟩
theorem PbS.cells {x0 x1 : Value} (h : PbS w0 W g b gp s F) (hF : F = #[x0, x1]) : W.cell? ⟨gp, 0, none⟩ = some x0 ∧ W.cell? ⟨gp, 1, none⟩ = some x1 ∧ ∀ j, W.frozen? ⟨gp, j, none⟩ = false := by
 subst hF
 exact ⟨cell_at h.bx 0 _ rfl, cell_at h.bx 1 _ rfl, fun j => blk_frozen h.bx j⟩
end
set_option maxHeartbeats 4000000 in
set_option maxRecDepth 100000 in
theorem qread_cert (A : Option Addr) (c : Nat) (l : List Int) (w : World) (hC : kU8.C w A l.length l) (hll : l.length ≤ 1000000) (hby : By l) (hA : ∀ a, A = some a → a.block < w.heap.size) (hlc : l.length ≤ c) (h0 : 0 < w.heap.size) :
 Calls Try.prog 65 #[.slice A l.length c] w fun e w' => CertRet w' w.heap.size (sCert l) e ∧ Below w.heap.size w w' := by
 have mixed : Try.prog.follows .mixedOrders = true := by kernel_rfl
 have HBY := aM hby
 have hr17 := below_range (m := 17) (s := (l, 0)) (by decide) hby
 obtain ⟨N, hN⟩ : ∃ N : Nat, (sBelow 17 (l, 0)).1 = (N : Int) := ⟨(sBelow 17 (l, 0)).1.toNat, by omega⟩
 obtain ⟨s1, hs1⟩ : ∃ s1, (sBelow 17 (l, 0)).2 = s1 := ⟨_, rfl⟩
 have hN16 : N ≤ 16 := by omega
 have hS : sCert l = ((sCrtN N s1).1, ended (sCrtN N s1).2.1 (sCrtN N s1).2.2) := by unfold sCert; rw [hN, hs1]; rfl
 rw [hS]
 have HN := aM hN
 have HS1 := aM hs1
 obtain ⟨b, hbA, hbl⟩ : ∃ b, (∀ a, A = some a → a.block = b) ∧ b < w.heap.size := by
  cases A with
  | none => exact ⟨0, (fun a e => by cases e), h0⟩
  | some a => exact ⟨a.block, (fun a' e => by injection e with e; rw [e]), hA a rfl⟩
 obtain ⟨W0, hW0⟩ : ∃ W0, W0 = w.alloc (.cells #[.slice A l.length c, .int .i64 0] 107) := ⟨_, rfl⟩
 have HDa := aM (show Rq W0 w.heap.size b (l, 0) from by
  rw [hW0]
  exact ⟨⟨A, c, heap_alloc_new _ _, hlc, hbA, Kd.C_alloc hC _, by omega⟩, hby, by rw [World.size_alloc]; omega⟩)
 have HW1 := aM (show Below w.heap.size w W0 by rw [hW0]; exact (Below.refl _ _).alloc (Nat.le_refl _) _)
 have HZ0 := aM (show W0.heap.size = w.heap.size + 1 by rw [hW0, World.size_alloc])
 clear hC hby hr17 hN hs1 hS hA h0 hbA
 go_enter Try.func65, Try.ntmps65
 go_upto_region 3 with fail
 rw [← hW0]
 clear hW0
 go_wp2_with (go_at_call 53; refine (rq_below w.heap.size b (l, 0) 17 _ HDa.out (by decide) (by decide)).mono ?_; rintro _ w1 ⟨rfl, hd, hk, hs⟩; rw [HS1.out] at hd; rw [HN.out]; have HD := aM hd; have HZ1 := aM (hs.trans HZ0.out); have HW2 := aM (HW1.out.trans (keep_below hk HW1.out.size (fun i e => by have e : i = w.heap.size := e; omega))); clear hd hk hs HDa)
 go_loopw [5, 7] (fun vo vi wr => ∃ x : Nat, x ≤ N ∧ vi = .int .i64 x ∧ ∃ bs sx, Aside0 (kPs.R 58 wr w1.heap.size (fun _ => True) vo bs) ∧ Aside0 (Rq wr w.heap.size b sx) ∧ Aside0 (bs.length = x) ∧ Aside0 ((sCrtN x s1).2 = sx ∧ (sx.2 = 0 → (sCrtN x s1).1 = bs)) ∧ Aside0 (Keep (fun i => i = w.heap.size ∨ w1.heap.size ≤ i) w1 wr)) (fun _ vi _ => N - (intOf vi).toNat)
 case atStart => exact ⟨0, by omega, rfl, [], s1, ⟨Kd.R_nil _ _ _ _ _⟩, HD, ⟨rfl⟩, ⟨rfl, fun _ => rfl⟩, ⟨Keep.refl _ _⟩⟩
 case round =>
  clear HD
  obtain ⟨wo, hwo⟩ : ∃ wo, wo = wr := ⟨_, rfl⟩
  subst hwo
  obtain ⟨x, hx, rfl, bs, sx, HO, HD, HLN, HB, HK⟩ := hrel
  have HZO := aM HK.out.size
  by_cases hgo : x < N ∧ sx.2 = 0
  · obtain ⟨hxN, hc0⟩ := hgo
    have hrm := below_range (m := 65536) (s := sx) (by decide) HD.out.2.1
    obtain ⟨m, s2, hm⟩ : ∃ (m : Nat) (s2 : St), sBelow 65536 sx = ((m : Int), s2) := ⟨(sBelow 65536 sx).1.toNat, (sBelow 65536 sx).2, by rw [Int.toNat_of_nonneg hrm.1]⟩
    have hm6 : m < 65536 := by rw [hm] at hrm; simp only at hrm; omega
    have HM := aM hm
    have hbl : bs.length ≤ 16 := by rw [HLN.out]; omega
    have q1 : wo.cell? ⟨w.heap.size, 1, none⟩ = some (.int .i64 0) := by have h := HD.out.code; rwa [hc0] at h
    clear hrm hm hc0
    go_wp2_with (go_at_call 53; refine (rq_below w.heap.size b sx 65536 _ HD.out (by decide) (by decide)).mono ?_; rintro _ wa ⟨rfl, hd, hk, hs⟩; rw [HM.out] at hd ⊢; have HD2 := aM hd; have HKa := aM hk; have HZa := aM hs; clear hd hk hs HD q1)
    have HOa := aM (Kd.R_step (w1 := wa) (Kd.R_mono (Kd.R_bound HO.out) (ok' := fun k => w1.heap.size ≤ k ∧ k < wo.heap.size) (fun k hk => ⟨hk.2.1, hk.2.2.1⟩)) (fun k hk hl => HKa.out.block k hl (fun e => by have e : k = w.heap.size := e; have := HZ1.out; omega)))
    have HWA := aM (show w1.heap.size ≤ wa.heap.size by have := HZa.out; have := HZO.out; omega)
    go_loopw [8, 10] (fun vl vi wi => ∃ i : Nat, i ≤ m ∧ vi = .int .i64 i ∧ ∃ ps si, ps.length ≤ i ∧ Aside0 (kP.R 61 wi wa.heap.size (fun _ => True) vl ps) ∧ Aside0 (Rq wi w.heap.size b si) ∧ Aside0 ((sPrs i s2).2 = si ∧ (si.2 = 0 → (sPrs i s2).1 = ps)) ∧ Aside0 (Keep (fun i => i = w.heap.size ∨ wa.heap.size ≤ i) wa wi)) (fun _ vi _ => m - (intOf vi).toNat)
    case atStart => exact ⟨0, by omega, rfl, [], s2, by simp, ⟨Kd.R_nil _ _ _ _ _⟩, HD2, ⟨rfl, fun _ => rfl⟩, ⟨Keep.refl _ _⟩⟩
    case round =>
     clear HD2
     obtain ⟨wi, hwi⟩ : ∃ wi, wi = wr := ⟨_, rfl⟩
     subst hwi
     obtain ⟨i, hi, rfl, ps, si, hpl, HV, HDi, HS, HKi⟩ := hrel
     obtain ⟨Al, cl, hvl, -, -⟩ := Kd.R_reads HV.out
     obtain ⟨nl, hnl⟩ : ∃ nl, ps.length = nl := ⟨_, rfl⟩
     rw [hnl] at hvl
     subst hvl
     have HNL := aM hnl
     have HZI := aM HKi.out.size
     by_cases hgi : i < m ∧ si.2 = 0
     · obtain ⟨him, hc⟩ := hgi
       obtain ⟨pv, sa, ha⟩ : ∃ pv sa, sBelow 4096 si = (pv, sa) := ⟨_, _, rfl⟩
       obtain ⟨pl, sb, hb⟩ : ∃ pl sb, sBelow 4096 sa = (pl, sb) := ⟨_, _, rfl⟩
       have HPA := aM ha
       have HPB := aM hb
       have HNX := aM (show sPrs (i + 1) s2 = (ps ++ [(pv, pl)], sb) from by
        rw [prs_succ (by rw [HS.out.1]; exact hc), HS.out.1, HS.out.2 hc]
        simp only [sPr, ha, hb])
       have q1 : wi.cell? ⟨w.heap.size, 1, none⟩ = some (.int .i64 0) := by have h := HDi.out.code; rwa [hc] at h
       clear hc ha hb hnl
       obtain ⟨WP, hWP⟩ : ∃ WP, WP = wi.alloc (.cells #[.int .i64 0, .int .i64 0] 61) := ⟨_, rfl⟩
       have HI := aM (show PbS wi WP w.heap.size b wi.heap.size si #[.int .i64 0, .int .i64 0] from by
        have hb1 : Below wi.heap.size wi WP := by rw [hWP]; exact (Below.refl _ _).alloc (Nat.le_refl _) _
        have h1 := HZI.out
        have h2 := HWA.out
        have h3 := HZ1.out
        exact ⟨HDi.out.below hb1, by rw [hWP]; exact heap_alloc_new _ _, Keep.of_below hb1, by omega, by omega⟩)
       go_upto_region 13 with fail
       rw [← hWP]
       clear hWP q1
       obtain ⟨y0, y1, yz⟩ := PbS.cells HI.out rfl
       go_upto_region 15 with (go_at_call 53; (first | (refine (rq_below w.heap.size b _ 4096 _ (HI.out).rd (by decide) (by decide)).mono ?_; rintro _ w2 ⟨rfl, hd, hk, -⟩; rw [HPA.out] at hd ⊢; have HI2 := aM (PbS.step HI.out hk hd)) | (refine (rq_below w.heap.size b _ 4096 _ ((HI.out.set 0 (.int .i64 pv))).rd (by decide) (by decide)).mono ?_; rintro _ w2 ⟨rfl, hd, hk, -⟩; rw [HPB.out] at hd ⊢; have HI2 := aM (PbS.step (HI.out.set 0 (.int .i64 pv)) hk hd))); clear HI y0 y1 yz; have HI := HI2; clear HI2 hd hk; obtain ⟨y0, y1, yz⟩ := PbS.cells HI.out rfl)
       have hset := HI.out.set 1 (.int .i64 pl)
       generalize w2.setCell ⟨wi.heap.size, 1, none⟩ (.int .i64 pl) = WD at hset ⊢
       clear HI y0 y1 yz
       have HI := aM (show PbS wi WD w.heap.size b wi.heap.size sb #[.int .i64 pv, .int .i64 pl] from hset)
       clear hset
       obtain ⟨y0, y1, yz⟩ := PbS.cells HI.out rfl
       have HNL9 := aM (show nl ≤ i by have := HNL.out; omega)
       go_wp2_with ((with_reducible refine gate_builtin (b := .append) (xs := #[.tmp 51, .tmp 53]) rfl ?_); at_builtin; refine Kd.R_append kP (w0 := WD) wa.heap.size rfl (.tmp 51) (.tmp 53) 58 61 (.agg #[.int .i64 0, .int .i64 0]) 16 rfl Try.underlying58 infoP rfl (show 0 < 2 by decide) (by decide) (.slice Al nl cl) ps (pv, pl) [.int .i64 pv, .int .i64 pl] (fun _ => True) (fun _ => False) rfl rfl pair_M (fun _ h => h.elim) (fun _ _ => trivial) (Kd.R_mono (Kd.R_step (Kd.R_mono (Kd.R_bound HV.out) (ok' := fun k => wa.heap.size ≤ k ∧ k < wi.heap.size) (fun k hk => ⟨hk.2.1, hk.2.2.1⟩)) (fun k hk hl => HI.out.kp.block k hl (fun e => by have h3 := HZ1.out; have h2 := HWA.out; have hk1 := hk.1; have hk2 := hk.2; rcases e with e | e <;> omega))) (fun _ _ => trivial)) (Below.refl _ _) (Nat.le_trans HZI.out HI.out.kp.size) (by omega) ?_; intro v4 w4 ho4 hb4 hg4 hat4; have HO4 := aM ho4; have HB4 := aM hb4; clear ho4 hb4 hg4 hat4)
       go_roundw
       case rel =>
        have h1 := HZI.out
        have h2 := HWA.out
        have h3 := HZ1.out
        have hkk : Keep (fun i => i = w.heap.size ∨ wa.heap.size ≤ i) WD w4 := (keep_of_below HB4.out).mono (fun i _ h => .inr h)
        exact ⟨i + 1, by omega, by go_num, _, sb, by simp; omega, HO4, ⟨HI.out.rd.keep (keep_of_below HB4.out) (by omega) (by omega)⟩, ⟨by rw [HNX.out], fun _ => by rw [HNX.out]⟩, ⟨(HKi.out.trans (HI.out.kp.mono (fun i _ e => e.imp id (fun e => by omega)))).trans hkk⟩⟩
       case measure => simp [intOf]; omega
     · have HST := aM (show (sPrs m s2).2 = si ∧ (si.2 = 0 → (sPrs m s2).1 = ps) from by
        by_cases hc : si.2 = 0
        · obtain rfl : i = m := by omega
          exact HS.out
        · obtain ⟨d, rfl⟩ : ∃ d, m = i + d := ⟨m - i, by omega⟩
          rw [prs_stuck (by rw [HS.out.1]; exact hc)]
          exact HS.out)
       have HNX := aM (crt_step HB.out.1 HB.out.2 HM.out HST.out.1 HST.out.2)
       have q1 := HDi.out.code
       have hex : (¬ i < m) ∨ (i < m ∧ (si.2 == 0) = false) := by
        by_cases h : i < m
        · exact .inr ⟨h, beq_eq_false_iff_ne.mpr (fun e => hgi ⟨h, e⟩)⟩
        · exact .inl h
       clear hnl hgi
       rcases hex with h1 | ⟨h1, h2⟩
       all_goals
        go_wp2_with ((with_reducible refine gate_builtin (b := .append) (xs := #[.tmp 55, .tmp 57]) rfl ?_); at_builtin; refine Kd.R_append kPs (w0 := wi) w1.heap.size rfl (.tmp 55) (.tmp 57) 55 58 (.slice none 0 0) 24 rfl Try.underlying55 infoPs rfl (show 0 < 1 by decide) (by decide) u5 bs ps [.slice Al nl cl] (fun _ => True) (fun k => wa.heap.size ≤ k) rfl rfl (prs_M (Kd.R_lower (Kd.R_mono (Kd.R_bound HV.out) (fun k hk => hk.2.1)) HWA.out)) (fun k hk => ⟨trivial, fun e => by have h := ((Kd.R_bound HOa.out).1 k e.symm).1.2; have := HZa.out; omega⟩) (fun _ _ => trivial) (Kd.R_mono (Kd.R_step HOa.out (fun k hk hl => HKi.out.block k hl (fun e => by have h8 := HZa.out; have h7 := HZ1.out; have hk1 := hk.1; have hk2 := hk.2; rcases e with e | e <;> omega))) (fun _ _ => trivial)) (Below.refl _ _) (Nat.le_trans HWA.out HZI.out) (by omega) ?_; intro v4 w4 ho4 hb4 hg4 hat4; have HO4 := aM ho4; have HB4 := aM hb4; clear ho4 hb4 hg4 hat4)
        go_roundw
        case rel =>
         have h5 := HZI.out
         have h6 := HWA.out
         have h7 := HZ1.out
         exact ⟨x + 1, by omega, by go_num, _, si, HO4, ⟨HDi.out.keep (keep_of_below HB4.out) (by omega) (by omega)⟩, ⟨by rw [List.length_append, HLN.out]; rfl⟩, HNX, ⟨(HK.out.trans (HKa.out.mono (fun i _ e => .inl e))).trans ((HKi.out.mono (fun i _ h => h.imp id (fun h => Nat.le_trans HWA.out h))).trans ((keep_of_below HB4.out).mono (fun i _ h => .inr h)))⟩⟩
        case measure => simp [intOf]; omega
  · have HBX := aM (show (sCrtN N s1).2 = sx ∧ (sx.2 = 0 → (sCrtN N s1).1 = bs) from by
     by_cases hc : sx.2 = 0
     · obtain rfl : x = N := by omega
       exact HB.out
     · obtain ⟨d, rfl⟩ : ∃ d, N = x + d := ⟨N - x, by omega⟩
       rw [crt_stuck (by rw [HB.out.1]; exact hc)]
       exact HB.out)
    have q1 := HD.out.code
    have hex : (¬ x < N) ∨ (x < N ∧ (sx.2 == 0) = false) := by
     by_cases h : x < N
     · exact .inr ⟨h, beq_eq_false_iff_ne.mpr (fun e => hgo ⟨h, e⟩)⟩
     · exact .inl h
    obtain ⟨E, hE⟩ : ∃ E, ended sx.1 sx.2 = E := ⟨_, rfl⟩
    have HE := aM hE
    have HBW := aM (show ∀ W', Keep (· = w.heap.size) wo W' → Below w.heap.size w W' from fun W' h => HW2.out.trans ((HK.out.trans (h.mono (fun i _ e => .inl e))).below HW2.out.size (fun i h1 h2 => by have h3 := HZ1.out; rcases h2 with h2 | h2 <;> omega)))
    have HXX := aM (show ended (sCrtN N s1).2.1 (sCrtN N s1).2.2 = E from by rw [HBX.out.1]; exact hE)
    obtain ⟨Ao, co, hvo, -, -⟩ := Kd.R_reads HO.out
    obtain ⟨no, hno⟩ : ∃ no, bs.length = no := ⟨_, rfl⟩
    rw [hno] at hvo
    subst hvo
    have HOK := aM (show E = 0 → (sCrtN N s1).1 = bs from fun h => HBX.out.2 (ended_ok (by rw [hE]; exact h)))
    clear hE hno hgo
    by_cases hE0 : E = 0
    · subst hE0
      rcases hex with h1 | ⟨h1, h2⟩
      all_goals
       go_wp2_with (go_at_call 97; refine (rq_end w.heap.size b sx _ HD.out).mono ?_; rintro _ w6 ⟨rfl, hk, -⟩; rw [HE.out]; have HK6 := aM hk; clear hk q1)
       go_returns
       rw [HXX.out]
       have hz := HZ1.out
       refine ⟨⟨_, bs, rfl, ?_, .inl ⟨rfl, HOK.out (by trivial)⟩⟩, HBW.out _ HK6.out⟩
       exact Kd.R_lower (Kd.R_mono (Kd.R_step (Kd.R_mono (Kd.R_bound HO.out) (ok' := fun k => w1.heap.size ≤ k) (fun k hk => hk.2.1)) (fun k hk hl => HK6.out.block k hl (fun e => by have e : k = w.heap.size := e; omega))) (fun _ _ => trivial)) (by omega)
    · have hcn : (E != 0) = true := bne_iff_ne.mpr hE0
      have hcb : (E == 0) = false := beq_eq_false_iff_ne.mpr hE0
      have HE0 := aM hE0
      clear hE0
      rcases hex with h1 | ⟨h1, h2⟩
      all_goals
       go_wp2_with (go_at_call 97; refine (rq_end w.heap.size b sx _ HD.out).mono ?_; rintro _ w6 ⟨rfl, hk, -⟩; rw [HE.out]; have HK6 := aM hk; clear hk q1)
       go_returns
       rw [HXX.out]
       exact ⟨⟨_, [], rfl, Kd.R_nil _ _ _ _ _, .inr ⟨HE0.out, rfl⟩⟩, HBW.out _ HK6.out⟩
end Go.Proofs.Ytnckonglodmfeaa.Ik
namespace Go.Proofs.Ytnckonglodmfeaa.Ik
open Go.RowKit Go.Proofs.YtnckonglodmfeaaW.PrintWords Go.Proofs.YtnckonglodmfeaaW.PrintLast Go.Proofs.YtnckonglodmfeaaW.PrintMore B R S Is
theorem run_equalPr (d : Nat) (W : World) (p q p' q' : Int) : (Op.equalIn (d + 2) 61 (.agg #[.int .i64 p, .int .i64 q]) (.agg #[.int .i64 p', .int .i64 q'])).run Try.prog W = .ok (p == p' && (q == q')) W := by
 refine eqA_of Try.underlying61 (by kernel_rfl) ?_
 refine eqf_cons (by rfl) (by go_simp; rfl) (by go_simp; rfl) (by go_simp) ?_
 exact eqf_last (by rfl) (by go_simp; rfl) (by go_simp; rfl) (by go_simp)
theorem run_neqPr (W : World) (p q p' q' : Int) : (binOp .neq 61 (.agg #[.int .i64 p, .int .i64 q]) (.agg #[.int .i64 p', .int .i64 q'])).run Try.prog W = .ok (.bool (!(p == p' && (q == q')))) W := by
 simp only [binOp]
 simp [Op.equal, Op.maxDepth, run_equalPr 9998 W]
set_option maxHeartbeats 4000000 in
set_option maxRecDepth 100000 in
theorem same_codes (p v sl : Int) (l : List Blk) (n : Nat) (hn : l.length = n) (A B : Option Addr) (c e : Nat) (w : World) (hA : kBlk.C w A n l) (hB : kBlk.C w B n l) :
 Calls Try.prog 66 #[.agg #[.int .i64 p, .int .i64 v, .int .i64 sl, .slice A n c], .agg #[.int .i64 p, .int .i64 v, .int .i64 sl, .slice B n e]] w fun r w' => r = .returned (.bool true) ∧ Below w.heap.size w w' := by
 have mixed : Try.prog.follows .mixedOrders = true := by kernel_rfl
 have HA := aM hA
 have HB := aM hB
 have HN := aM hn
 clear hA hB hn
 have HWF := aM (show Below w.heap.size w ((w.alloc (.cells #[.int .i64 p, .int .i64 v, .int .i64 sl, .slice A n c] 54)).alloc (.cells #[.int .i64 p, .int .i64 v, .int .i64 sl, .slice B n e] 54)) from ((Below.refl _ _).alloc (Nat.le_refl _) _).alloc (by rw [World.size_alloc]; omega) _)
 go_enter Try.func66, Try.ntmps66
 go_wp2_with (go_at_call 84; refine (same_blocks l n HN.out A B c e _ (Kd.C_below HA.out HWF.out) (Kd.C_below HB.out HWF.out)).mono ?_; rintro _ w7 ⟨rfl, hb⟩; have HW7 := aM (HWF.out.trans (hb.mono HWF.out.size)); clear hb)
 go_ret
 exact ⟨rfl, HW7.out⟩
set_option maxHeartbeats 4000000 in
set_option maxRecDepth 100000 in
theorem same_pairs (l : List Pr) (n : Nat) (hn : l.length = n) (A B : Option Addr) (c e : Nat) (w : World) (hA : kP.C w A n l) (hB : kP.C w B n l) :
 Calls Try.prog 100 #[.slice A n c, .slice B n e] w fun r w' => r = .returned (.bool true) ∧ Below w.heap.size w w' := by
 have mixed : Try.prog.follows .mixedOrders = true := by kernel_rfl
 subst hn
 have HA := aM hA
 have HB := aM hB
 have hll := hA.2.1
 clear hA hB
 go_enter Try.func100, Try.ntmps100
 go_wp2_with fail
 go_loopw [5] (fun vi wr => ∃ j : Nat, j ≤ l.length ∧ vi = .int .i64 j ∧ Aside0 (Below w.heap.size w wr)) (fun vi _ => l.length - (intOf vi).toNat)
 case atStart => exact ⟨0, by omega, rfl, ⟨Below.refl _ _⟩⟩
 case round =>
  obtain ⟨wo, hwo⟩ : ∃ wo, wo = wr := ⟨_, rfl⟩
  subst hwo
  obtain ⟨j, hj, rfl, HZ⟩ := hrel
  by_cases hjl : j < l.length
  · obtain ⟨⟨p, q⟩, hx⟩ : ∃ x, l[j]? = some x := ⟨_, List.getElem?_eq_getElem hjl⟩
    obtain ⟨ad, rfl, b0, b1⟩ := pair_cells HA.out hx
    obtain ⟨ad', rfl, c0, c1⟩ := pair_cells HB.out hx
    have HBX := aM (show ∀ W', Below w.heap.size w W' → (W'.cell? (ad.add (j * 2)) = some (.int .i64 p) ∧ W'.cell? ⟨(ad.add (j * 2)).block, (ad.add (j * 2)).off + 1, none⟩ = some (.int .i64 q)) ∧ W'.cell? (ad'.add (j * 2)) = some (.int .i64 p) ∧ W'.cell? ⟨(ad'.add (j * 2)).block, (ad'.add (j * 2)).off + 1, none⟩ = some (.int .i64 q) from fun W' h =>
     ⟨⟨pw_cell_below h b0, pw_cell_below h b1⟩, pw_cell_below h c0, pw_cell_below h c1⟩)
    have HBK := aM (show ∀ W', Keep (fun _ => False) wo.drew W' → Below w.heap.size w W' from fun W' h => Keep.below_then HZ.out.drew h HZ.out.size (fun _ _ => id))
    have hne := fun W => run_neqPr W p q p q
    have hbb : (!(p == p && (q == q))) = false := by simp
    simp only [hbb] at hne
    clear hx b0 b1 c0 c1 hbb
    go_wp2_with fail
    refine rk_start (fun _ => False) (by kernel_rfl) (n := 9) (l := (bl 9 0)) (by kernel_rfl) (by kernel_rfl) ?_
    refine kt 0 (bl 9 1) rfl (fun w' hR => by go_simp; first | done | with_reducible rfl) rfl ?_
    try simp only [Act.put, pB, pC, pD]
    refine kt 1 (bl 9 3) rfl (fun w' hR => by go_simp; first | done | with_reducible rfl) rfl ?_
    try simp only [Act.put, pB, pC, pD]
    refine kt 2 (bl 9 7) rfl (fun w' hR => by go_simp; first | done | with_reducible rfl) rfl ?_
    try simp only [Act.put, pB, pC, pD]
    refine kt 3 (bl 9 15) rfl (fun w' hR => by obtain ⟨⟨x0, x1⟩, y0, y1⟩ := HBX.out w' (HBK.out w' hR); go_simp; first | done | with_reducible rfl) rfl ?_
    try simp only [Act.put, pB, pC, pD]
    refine kt 4 (bl 9 31) rfl (fun w' hR => by go_simp; first | done | with_reducible rfl) rfl ?_
    try simp only [Act.put, pB, pC, pD]
    refine kt 5 (bl 9 63) rfl (fun w' hR => by go_simp; first | done | with_reducible rfl) rfl ?_
    try simp only [Act.put, pB, pC, pD]
    refine kt 6 (bl 9 127) rfl (fun w' hR => by go_simp; first | done | with_reducible rfl) rfl ?_
    try simp only [Act.put, pB, pC, pD]
    refine kt 7 (bl 9 255) rfl (fun w' hR => by obtain ⟨⟨x0, x1⟩, y0, y1⟩ := HBX.out w' (HBK.out w' hR); go_simp; first | done | with_reducible rfl) rfl ?_
    try simp only [Act.put, pB, pC, pD]
    refine kt 8 (bl 9 511) rfl (fun w' hR => by have x0 := hne w'; go_simp; first | done | with_reducible rfl) rfl ?_
    try simp only [Act.put, pB, pC, pD]
    refine rk_done (by kernel_rfl) ?_
    clear HBK hne
    go_wp2
    go_roundw
    case rel => exact ⟨j + 1, by omega, by go_num, ⟨HZ.out.drew⟩⟩
    case measure => simp [intOf]; omega
  · obtain rfl : j = l.length := by omega
    go_wp2
    go_ret
    exact ⟨rfl, HZ.out⟩
set_option maxHeartbeats 4000000 in
set_option maxRecDepth 100000 in
theorem same_certs (l : Crt) (n : Nat) (hn : l.length = n) (A B : Option Addr) (c e : Nat) (w : World) (hA : kPs.C w A n l) (hB : kPs.C w B n l) :
 Calls Try.prog 67 #[.slice A n c, .slice B n e] w fun r w' => r = .returned (.bool true) ∧ Below w.heap.size w w' := by
 have mixed : Try.prog.follows .mixedOrders = true := by kernel_rfl
 subst hn
 have HA := aM hA
 have HB := aM hB
 have hll := hA.2.1
 clear hA hB
 go_enter Try.func67, Try.ntmps67
 go_wp2_with fail
 go_loopw [5] (fun vi wr => ∃ j : Nat, j ≤ l.length ∧ vi = .int .i64 j ∧ Aside0 (Below w.heap.size w wr)) (fun vi _ => l.length - (intOf vi).toNat)
 case atStart => exact ⟨0, by omega, rfl, ⟨Below.refl _ _⟩⟩
 case round =>
  obtain ⟨wo, hwo⟩ : ∃ wo, wo = wr := ⟨_, rfl⟩
  subst hwo
  obtain ⟨j, hj, rfl, HZ⟩ := hrel
  by_cases hjl : j < l.length
  · obtain ⟨ps, hx⟩ : ∃ x, l[j]? = some x := ⟨_, List.getElem?_eq_getElem hjl⟩
    obtain ⟨ad, A1, n1, rfl, b0, hn1, hC1⟩ := crt_cells HA.out hx
    obtain ⟨ad', A2, n2, rfl, c0, hn2, hC2⟩ := crt_cells HB.out hx
    have HC1 := aM hC1
    have HC2 := aM hC2
    have HBX := aM (show ∀ W', Below w.heap.size w W' → W'.cell? (ad.add j) = some (.slice A1 ps.length n1) ∧ W'.cell? (ad'.add j) = some (.slice A2 ps.length n2) from fun W' h =>
     ⟨pw_cell_below h b0, pw_cell_below h c0⟩)
    have HBK := aM (show ∀ W', Keep (fun _ => False) wo.drew W' → Below w.heap.size w W' from fun W' h => Keep.below_then HZ.out.drew h HZ.out.size (fun _ _ => id))
    clear hx b0 c0 hC1 hC2
    go_wp2_with fail
    refine rk_start (fun _ => False) (by kernel_rfl) (n := 10) (l := (bl 10 0)) (by kernel_rfl) (by kernel_rfl) ?_
    refine kt 0 (bl 10 1) rfl (fun w' hR => by go_simp; first | done | with_reducible rfl) rfl ?_
    try simp only [Act.put, pB, pC, pD]
    refine kt 1 (bl 10 3) rfl (fun w' hR => by go_simp; first | done | with_reducible rfl) rfl ?_
    try simp only [Act.put, pB, pC, pD]
    refine kt 2 (bl 10 7) rfl (fun w' hR => by go_simp; first | done | with_reducible rfl) rfl ?_
    try simp only [Act.put, pB, pC, pD]
    refine kt 3 (bl 10 15) rfl (fun w' hR => by obtain ⟨x0, y0⟩ := HBX.out w' (HBK.out w' hR); go_simp; first | done | with_reducible rfl) rfl ?_
    try simp only [Act.put, pB, pC, pD]
    refine kt 4 (bl 10 31) rfl (fun w' hR => by go_simp; first | done | with_reducible rfl) rfl ?_
    try simp only [Act.put, pB, pC, pD]
    refine kt 5 (bl 10 63) rfl (fun w' hR => by go_simp; first | done | with_reducible rfl) rfl ?_
    try simp only [Act.put, pB, pC, pD]
    refine kt 6 (bl 10 127) rfl (fun w' hR => by go_simp; first | done | with_reducible rfl) rfl ?_
    try simp only [Act.put, pB, pC, pD]
    refine kt 7 (bl 10 255) rfl (fun w' hR => by obtain ⟨x0, y0⟩ := HBX.out w' (HBK.out w' hR); go_simp; first | done | with_reducible rfl) rfl ?_
    try simp only [Act.put, pB, pC, pD]
    refine rk_step (fuel := 1) 8 rfl (by kernel_rfl) (listed' := (bl 10 511)) (by kernel_rfl) (by kernel_rfl) (fun K' hK => ?_)
    go_wp2_with (go_at_call 100; refine (same_pairs ps ps.length rfl A1 A2 n1 n2 _ (Kd.C_below HC1.out HZ.out.drew) (Kd.C_below HC2.out HZ.out.drew)).mono ?_; rintro _ w7 ⟨rfl, hb⟩; have HB7 := aM hb; clear hb)
    refine hK.out _ _ (Keep.of_below HB7.out) ?_
    clear hK K'
    try simp only [Act.put, pB, pC, pD]
    refine kt 9 (bl 10 1023) rfl (fun w' hR => by go_simp; first | done | with_reducible rfl) rfl ?_
    try simp only [Act.put, pB, pC, pD]
    refine rk_done (by kernel_rfl) ?_
    clear HBK
    go_wp2
    go_roundw
    case rel => exact ⟨j + 1, by omega, by go_num, ⟨HZ.out.drew.trans (HB7.out.mono HZ.out.size)⟩⟩
    case measure => simp [intOf]; omega
  · obtain rfl : j = l.length := by omega
    go_wp2
    go_ret
    exact ⟨rfl, HZ.out⟩
end Go.Proofs.Ytnckonglodmfeaa.Ik
namespace Go.Proofs.Ytnckonglodmfeaa.Ik
open Ls Go.RowKit Go.Proofs.YtnckonglodmfeaaW.PrintWords Go.Proofs.YtnckonglodmfeaaW.PrintLast Go.Proofs.YtnckonglodmfeaaW.PrintMore B R S Is Js
set_option maxHeartbeats 4000000 in
set_option maxRecDepth 100000 in
theorem rcert_calls (l : Crt) (A : Option Addr) (c : Nat) (w : World) (hC : kPs.C w A l.length l) (hll : ∀ ps ∈ l, ps.length ≤ 1000) :
 Calls Try.prog 59 #[.slice A l.length c] w fun r w' => BytesOr (certErr l) (certErr l) (certL l) w' r ∧ Below w.heap.size w w' := by
 have mixed : Try.prog.follows .mixedOrders = true := by kernel_rfl
 have hl0 := hC.2.1
 have HC := aM hC
 have HLL := aM hll
 clear hC hll
 by_cases h16 : 16 < l.length
 · have HE := aM (show certErr l = 9 from if_pos h16)
   rw [HE.out]
   go_enter Try.func59, Try.ntmps59
   go_wp2
   go_returns
   exact ⟨⟨fun _ => rfl, fun h => by cases h⟩, Below.refl _ _⟩
 have HE := aM (show certErr l = if l.all (fun ps => ps.all prOk) then 0 else 2 from if_neg h16)
 go_enter Try.func59, Try.ntmps59
 go_wp2_with (go_at_call 41; refine (rput_num [] 0 rfl none 0 _ (by omega) (by omega) _ (C_nil .u8 _) (by omega)).mono ?_; rintro _ w3 ⟨m3, A3, n3, c3, rfl, hm3, hmn3, hn3, hc3, hCm3, hb3⟩; have HME := aM hm3; have HMN := aM hmn3; have HCM := aM hCm3; have HB := aM hb3; clear hm3 hmn3 hCm3 hb3)
 go_loopw [4, 5] (fun vb vi wr => ∃ (j : Nat) (m : List Int) (A' : Option Addr) (n' c' : Nat), j ≤ l.length ∧ vi = .int .i64 j ∧ vb = .slice A' n' c' ∧ n' ≤ 10 + 30000 * j ∧ n' ≤ c' ∧ Aside0 (m.length = n') ∧ Aside0 (m = fieldL l.length ++ ((l.take j).map prsL).flatten) ∧ Aside0 ((l.take j).all (fun ps => ps.all prOk) = true) ∧ Aside0 (kU8.C wr A' n' m) ∧ Aside0 (Below w.heap.size w wr)) (fun _ vi _ => l.length - (intOf vi).toNat)
 case atStart => exact ⟨0, m3, A3, n3, c3, by omega, rfl, rfl, by omega, hc3, HMN, ⟨by simpa using HME.out⟩, ⟨by simp⟩, HCM, HB⟩
 case round =>
  clear HMN HCM HME HB hc3 hn3
  obtain ⟨wo, hwo⟩ : ∃ wo, wo = wr := ⟨_, rfl⟩
  subst hwo
  obtain ⟨j, m, A0, n0, c0, hj, rfl, rfl, hn0, hc0, HMN, HME, HOK, HCM, HB⟩ := hrel
  by_cases hjl : j < l.length
  · obtain ⟨ps, hx⟩ : ∃ x, l[j]? = some x := ⟨_, List.getElem?_eq_getElem hjl⟩
    obtain ⟨ad, A1, n1, rfl, b0, hn1, hC1⟩ := crt_cells HC.out hx
    have hp1000 := HLL.out ps (List.mem_of_getElem? hx)
    have HBX := aM (show ∀ W', Below w.heap.size w W' → W'.cell? (ad.add j) = some (.slice A1 ps.length n1) from fun W' h => pw_cell_below h b0)
    have HC1 := aM hC1
    have HMT := aM (map_take prsL hx)
    have HAT := aM (all_take (f := fun ps => ps.all prOk) hx)
    have HX := aM hx
    clear hx hC1 b0
    have b0 := HBX.out wo HB.out
    go_wp2_with ((go_at_call 41; refine (rput_num _ _ HMN.out _ _ _ (by omega) (by omega) _ HCM.out (by omega)).mono ?_; rintro _ w3 ⟨m3, A3, n3, c3, rfl, hm3, hmn3, hn3, hc3, hCm3, hb3⟩; rw [HME.out] at hm3; have HB3 := aM (show Below w.heap.size w w3 from HB.out.trans (hb3.mono HB.out.size)); clear HME HMN HCM HB; have HME := aM hm3; have HMN := aM hmn3; have HCM := aM hCm3; have HB := HB3; clear HB3 hm3 hmn3 hCm3 hb3); clear b0; have b0 := HBX.out w3 HB.out)
    obtain ⟨E1, hE1⟩ : ∃ E1, fieldL l.length ++ ((l.take j).map prsL).flatten ++ fieldL ps.length = E1 := ⟨_, rfl⟩
    rw [hE1] at HME
    have HE1 := aM hE1
    clear hE1
    go_loopw [4, 6] (fun vb vi wi => ∃ (i : Nat) (m : List Int) (A' : Option Addr) (n' c' : Nat), i ≤ ps.length ∧ vi = .int .i64 i ∧ vb = .slice A' n' c' ∧ n' ≤ 10 + 30000 * j + 10 + 20 * i ∧ n' ≤ c' ∧ Aside0 (m.length = n') ∧ Aside0 (m = E1 ++ ((ps.take i).map prL).flatten) ∧ Aside0 ((ps.take i).all prOk = true) ∧ Aside0 (kU8.C wi A' n' m) ∧ Aside0 (Below w.heap.size w wi)) (fun _ vi _ => ps.length - (intOf vi).toNat)
    case atStart => exact ⟨0, m3, A3, n3, c3, by omega, rfl, rfl, by omega, hc3, HMN, ⟨by simpa using HME.out⟩, ⟨by simp⟩, HCM, HB⟩
    case round =>
     clear HMN HCM HME HB b0 hc3 hn3
     obtain ⟨wi, hwi⟩ : ∃ wi, wi = wr := ⟨_, rfl⟩
     subst hwi
     obtain ⟨i, m, A0, n0, c0, hi, rfl, rfl, hn0, hc0, HMN, HME, HOI, HCM, HB⟩ := hrel
     have b0 := HBX.out wi HB.out
     by_cases hil : i < ps.length
     · obtain ⟨⟨pv, pl⟩, hq⟩ : ∃ q, ps[i]? = some q := ⟨_, List.getElem?_eq_getElem hil⟩
       obtain ⟨ad2, rfl, i0, i1⟩ := pair_cells HC1.out hq
       have i0 := pw_cell_below HB.out i0
       have i1 := pw_cell_below HB.out i1
       have HMT1 := aM (map_take prL hq)
       have HAT1 := aM (all_take (f := prOk) hq)
       by_cases hok : 0 ≤ pv ∧ pv < 4096 ∧ 0 ≤ pl ∧ pl < 4096
       · have HPO := aM (show prOk (pv, pl) = true from decide_eq_true hok)
         have h1 : ¬ pv < 0 := by omega
         have h2 : ¬ 4095 < pv := by omega
         have h3 : ¬ pl < 0 := by omega
         have h4 : ¬ 4095 < pl := by omega
         have HXJ := aM (show ∀ W', Keep (fun _ => False) (wi.alloc (.cells #[.int .i64 pv, .int .i64 pl] 61)).drew W' → W'.cell? ⟨wi.heap.size, 0, none⟩ = some (.int .i64 pv) ∧ W'.cell? ⟨wi.heap.size, 1, none⟩ = some (.int .i64 pl) from fun W' h => by
          have g := new_cells h
          exact ⟨cell_at g 0 _ rfl, cell_at g 1 _ rfl⟩)
         have HBA := aM (show Below w.heap.size w (wi.alloc (.cells #[.int .i64 pv, .int .i64 pl] 61)).drew from (HB.out.alloc HB.out.size _).drew)
         have HCA := aM (show kU8.C (wi.alloc (.cells #[.int .i64 pv, .int .i64 pl] 61)).drew A0 n0 m from Kd.C_drew (Kd.C_alloc HCM.out _))
         clear hq hok
         go_wp2_with fail
         refine rk_start (fun _ => False) (by kernel_rfl) (n := 10) (l := (bl 10 0)) (by kernel_rfl) (by kernel_rfl) ?_
         refine kt 0 (bl 10 1) rfl (fun w' hR => by go_simp; first | done | with_reducible rfl) rfl ?_
         try simp only [Act.put, pB, pC, pD]
         refine kt 1 (bl 10 3) rfl (fun w' hR => by go_simp; first | done | with_reducible rfl) rfl ?_
         try simp only [Act.put, pB, pC, pD]
         refine kt 2 (bl 10 7) rfl (fun w' hR => by obtain ⟨x0, x1⟩ := HXJ.out w' hR; go_simp; first | done | with_reducible rfl) rfl ?_
         try simp only [Act.put, pB, pC, pD]
         refine kt 3 (bl 10 15) rfl (fun w' hR => by go_simp; first | done | with_reducible rfl) rfl ?_
         try simp only [Act.put, pB, pC, pD]
         refine kt 5 (bl 10 47) rfl (fun w' hR => by go_simp; first | done | with_reducible rfl) rfl ?_
         try simp only [Act.put, pB, pC, pD]
         refine kt 6 (bl 10 111) rfl (fun w' hR => by obtain ⟨x0, x1⟩ := HXJ.out w' hR; go_simp; first | done | with_reducible rfl) rfl ?_
         try simp only [Act.put, pB, pC, pD]
         refine kt 7 (bl 10 239) rfl (fun w' hR => by go_simp; first | done | with_reducible rfl) rfl ?_
         try simp only [Act.put, pB, pC, pD]
         refine rk_step (fuel := 2) 4 rfl (by kernel_rfl) (listed' := (bl 10 255)) (by kernel_rfl) (by kernel_rfl) (fun K' hK => ?_)
         go_wp2_with (go_at_call 41; refine (rput_num m n0 HMN.out A0 c0 pv (by omega) (by omega) _ HCA.out (by omega)).mono ?_; rintro _ w1 ⟨m1, A5, n5, c5, rfl, hm1, hmn1, hn1, hc1, hCm1, hb1⟩; have HM1 := aM hm1; have HMN1 := aM hmn1; have HCM1 := aM hCm1; have HB1 := aM hb1; clear hm1 hmn1 hCm1 hb1)
         refine hK.out _ _ (Keep.of_below HB1.out) ?_
         clear hK K'
         try simp only [Act.put, pB, pC, pD]
         refine rk_step (fuel := 1) 8 rfl (by kernel_rfl) (listed' := (bl 10 511)) (by kernel_rfl) (by kernel_rfl) (fun K' hK => ?_)
         go_wp2_with (go_at_call 41; refine (rput_num m1 n5 HMN1.out A5 c5 pl (by omega) (by omega) _ HCM1.out (by omega)).mono ?_; rintro _ w2 ⟨m2, A6, n6, c6, rfl, hm2, hmn2, hn2, hc2, hCm2, hb2⟩; have HM2 := aM hm2; have HMN2 := aM hmn2; have HCM2 := aM hCm2; have HB2 := aM hb2; clear hm2 hmn2 hCm2 hb2)
         refine hK.out _ _ (Keep.of_below HB2.out) ?_
         clear hK K'
         try simp only [Act.put, pB, pC, pD]
         refine kt 9 (bl 10 1023) rfl (fun w' hR => by go_simp; first | done | with_reducible rfl) rfl ?_
         try simp only [Act.put, pB, pC, pD]
         refine rk_done (by kernel_rfl) ?_
         go_wp2
         go_roundw
         case rel =>
          have hb5 := HBA.out.trans (HB1.out.mono HBA.out.size)
          exact ⟨i + 1, m2, A6, n6, c6, by omega, by go_num, rfl, by omega, hc2, HMN2, ⟨by rw [HM2.out, HM1.out, HME.out, HMT1.out]; simp [prL, fieldsL, List.append_assoc]⟩, ⟨by rw [HAT1.out, HOI.out, HPO.out]; rfl⟩, HCM2, ⟨hb5.trans (HB2.out.mono hb5.size)⟩⟩
         case measure => simp [intOf]; omega
       · have HPO := aM (show ps.all prOk = false from all_false hq (decide_eq_false hok))
         have HE2 := aM (show certErr l = 2 from by rw [HE.out, all_false HX.out HPO.out]; rfl)
         have hbd : (pv < 0) ∨ (¬ pv < 0 ∧ 4095 < pv) ∨ (¬ pv < 0 ∧ ¬ 4095 < pv ∧ pl < 0) ∨ (¬ pv < 0 ∧ ¬ 4095 < pv ∧ ¬ pl < 0 ∧ 4095 < pl) := by omega
         clear hq hok
         rcases hbd with h1 | ⟨h1, h2⟩ | ⟨h1, h2, h3⟩ | ⟨h1, h2, h3, h4⟩
         all_goals
          go_wp2
          go_returns
          rw [HE2.out]
          exact ⟨⟨fun _ => rfl, fun h => by cases h⟩, HB.out.alloc HB.out.size _⟩
     · obtain rfl : i = ps.length := by omega
       have HMF := aM (show m = fieldL l.length ++ ((l.take (j + 1)).map prsL).flatten by rw [HME.out, List.take_length, ← HE1.out, HMT.out]; simp [prsL, List.append_assoc])
       have HOF := aM (show ps.all prOk = true by have h := HOI.out; rwa [List.take_length] at h)
       go_wp2
       go_roundw
       case rel => exact ⟨j + 1, m, A0, n0, c0, by omega, by go_num, rfl, by omega, hc0, HMN, HMF, ⟨by rw [HAT.out, HOK.out, HOF.out]; rfl⟩, HCM, HB⟩
       case measure => simp [intOf]; omega
  · obtain rfl : j = l.length := by omega
    have HE0 := aM (show certErr l = 0 from by rw [HE.out]; have h := HOK.out; rw [List.take_length] at h; rw [h]; rfl)
    have HMF := aM (show m = certL l by rw [HME.out, List.take_length]; simp [certL, fieldsL])
    have HMN9 := HMN
    go_wp2
    go_returns
    rw [HE0.out, ← HMF.out]
    obtain rfl := HMN9.out
    exact ⟨⟨fun h => absurd rfl h, fun _ => ⟨A0, c0, rfl, hc0, HCM.out⟩⟩, HB.out⟩
end Go.Proofs.Ytnckonglodmfeaa.Ik
namespace Go.Proofs.Ytnckonglodmfeaa.Ik
open Ls Lc Go.RowKit Go.Proofs.YtnckonglodmfeaaW.PrintWords Go.Proofs.YtnckonglodmfeaaW.PrintLast Go.Proofs.YtnckonglodmfeaaW.PrintMore B R S Is Js Gs Gc
abbrev Tel := Int × Int × Cod × Crt
def tellB (t : Tel) : List Int := fieldL t.1 ++ (putl t.2.1.toNat ++ (fieldL (codeL t.2.2.1).length ++ (codeL t.2.2.1 ++ certL t.2.2.2)))
def tellErr (t : Tel) : Int := if codeErr t.2.2.1 ≠ 0 then 30 else if certErr t.2.2.2 ≠ 0 then certErr t.2.2.2 else if t.1 < 0 ∨ 16 ≤ t.1 then 2 else if 65536 < (tellB t).length then 4 else 0
def tellL (t : Tel) : List Int := layL 3 (tellB t)
theorem tell_e1 {j n : Int} {c : Cod} {l : Crt} (h : codeErr c ≠ 0) : tellErr (j, n, c, l) = 30 := if_pos h
theorem tell_e2 {j n : Int} {c : Cod} {l : Crt} (h : codeErr c = 0) (h2 : certErr l ≠ 0) : tellErr (j, n, c, l) = certErr l := by simp [tellErr, h, h2]
theorem tell_e3 {j n : Int} {c : Cod} {l : Crt} (h : codeErr c = 0) (h2 : certErr l = 0) (h3 : j < 0 ∨ 16 ≤ j) : tellErr (j, n, c, l) = 2 := by simp [tellErr, h, h2, h3]
theorem tell_e4 {j n : Int} {c : Cod} {l : Crt} (h : codeErr c = 0) (h2 : certErr l = 0) (h3 : ¬ (j < 0 ∨ 16 ≤ j)) (h4 : 65536 < (tellB (j, n, c, l)).length) : tellErr (j, n, c, l) = 4 := by simp [tellErr, h, h2, h3, h4]
theorem tell_e0 {j n : Int} {c : Cod} {l : Crt} (h : codeErr c = 0) (h2 : certErr l = 0) (h3 : ¬ (j < 0 ∨ 16 ≤ j)) (h4 : ¬ 65536 < (tellB (j, n, c, l)).length) : tellErr (j, n, c, l) = 0 := by simp [tellErr, h, h2, h3, h4]
theorem wblk_len4 (b : Blk) (h : OkB b) : (blkL b).length ≤ 40050 := by
 have h1 := insl_len b.1 h.2.2
 have h2 := end_len b.2
 have h3 := field_len b.1.length
 have h4 := h.1
 simp only [blkL, List.length_append]
 omega
theorem code_len (p v sl : Int) (l : List Blk) (h0 : codeErr (p, v, sl, l) = 0) (hR : ∀ b ∈ l, BlkR b) : (codeL (p, v, sl, l)).length ≤ 700000 := by
 obtain ⟨h16, hok⟩ := code_ok h0 hR
 have h1 := flat_len blkL 40050 l (fun b hb => wblk_len4 b (hok b hb))
 have h2 := field_len l.length
 have h3 := fields_len [p, v, sl]
 simp only [codeL, blksL, List.length_append, List.length_cons, List.length_nil] at *
 omega
theorem cert_len (l : Crt) (h0 : certErr l = 0) (hl : ∀ ps ∈ l, ps.length ≤ 1000) : (certL l).length ≤ 400000 := by
 have h16 : l.length ≤ 16 := by
  unfold certErr at h0
  split at h0
  · cases h0
  · omega
 have h1 := flat_len prsL 20010 l (fun ps hps => by
  have h1 := flat_len prL 20 ps (fun p _ => pr_len p)
  have h2 := field_len ps.length
  have h3 := hl ps hps
  simp only [prsL, List.length_append]
  omega)
 have h2 := field_len l.length
 simp only [certL, List.length_append]
 omega
theorem code_byL (c : Cod) : By (codeL c) := By.append (fields_byL _) (blks_byL _)
theorem cert_byL (l : Crt) : By (certL l) := By.append (field_by' _) (flat_by _ _ (fun ps => By.append (field_by' _) (flat_by _ _ (fun p => fields_byL _))))
theorem tell_byB (t : Tel) : By (tellB t) := By.append (field_by' _) (By.append (putl_by _) (By.append (field_by' _) (By.append (code_byL _) (cert_byL _))))
theorem lay_long_n (k : Int) (A : Option Addr) (c : Nat) (b : List Int) (m : Nat) (hm : b.length = m) (w : World) (hl : 65536 < m) :
 Calls Try.prog 39 #[.int .u8 k, .slice A m c] w fun e w' => e = .returned (.tuple #[.slice none 0 0, .int .i64 4]) ∧ w' = w := by
 subst hm
 exact (lay_long k A c b w hl).mono (fun _ _ h => ⟨h.1, h.2.symm⟩)
def TellC (W : World) (g : Nat) (j n p v sl : Int) (s s' : Value) : Prop := W.cell? ⟨g, 0, none⟩ = some (.int .i64 j) ∧ W.cell? ⟨g, 1, none⟩ = some (.int .u64 n) ∧ W.cell? ⟨g, 2, none⟩ = some (.int .i64 p) ∧ W.cell? ⟨g, 3, none⟩ = some (.int .i64 v) ∧ W.cell? ⟨g, 4, none⟩ = some (.int .i64 sl) ∧ W.cell? ⟨g, 5, none⟩ = some s ∧ W.cell? ⟨g, 6, none⟩ = some s'
theorem tell_box {w W' : World} {j n p v sl : Int} {s s' : Value} {e : Nat} (h : Below (w.heap.size + 1) (w.alloc (.cells #[.int .i64 j, .int .u64 n, .int .i64 p, .int .i64 v, .int .i64 sl, s, s'] e)) W') : TellC W' w.heap.size j n p v sl s s' := by
 have g := below_cells (h.mono (by rw [World.size_alloc]; exact Nat.le_refl _))
 exact ⟨cell_at g 0 _ rfl, cell_at g 1 _ rfl, cell_at g 2 _ rfl, cell_at g 3 _ rfl, cell_at g 4 _ rfl, cell_at g 5 _ rfl, cell_at g 6 _ rfl⟩
set_option maxHeartbeats 4000000 in
set_option maxRecDepth 100000 in
theorem puttell_calls (j n p v sl : Int) (l : List Blk) (A : Option Addr) (c : Nat) (ct : Crt) (A' : Option Addr) (c' : Nat) (w : World) (hn0 : 0 ≤ n) (hn1 : n < 18446744073709551616) (hC : kBlk.C w A l.length l) (hR : ∀ b ∈ l, BlkR b) (hll : l.length ≤ 100000) (hCT : kPs.C w A' ct.length ct) (hlt : ∀ ps ∈ ct, ps.length ≤ 1000) :
 Calls Try.prog 22 #[.agg #[.int .i64 j, .int .u64 n, .int .i64 p, .int .i64 v, .int .i64 sl, .slice A l.length c, .slice A' ct.length c']] w fun e w' => BytesOr (tellErr (j, n, (p, v, sl, l), ct)) (tellErr (j, n, (p, v, sl, l), ct)) (tellL (j, n, (p, v, sl, l), ct)) w' e ∧ Below w.heap.size w w' := by
 have mixed : Try.prog.follows .mixedOrders = true := by kernel_rfl
 have HC := aM hC
 have HR := aM hR
 have HCT := aM hCT
 have HLT := aM hlt
 have HA := aM (show Below w.heap.size w (w.alloc (.cells #[.int .i64 j, .int .u64 n, .int .i64 p, .int .i64 v, .int .i64 sl, .slice A l.length c, .slice A' ct.length c'] 57)) from (Below.refl _ _).alloc (Nat.le_refl _) _)
 have HSZ := aM (World.size_alloc w (.cells #[.int .i64 j, .int .u64 n, .int .i64 p, .int .i64 v, .int .i64 sl, .slice A l.length c, .slice A' ct.length c'] 57))
 have HX := aM (fun W' (h : Below (w.heap.size + 1) (w.alloc (.cells #[.int .i64 j, .int .u64 n, .int .i64 p, .int .i64 v, .int .i64 sl, .slice A l.length c, .slice A' ct.length c'] 57)) W') => tell_box h)
 obtain ⟨FE, hFE⟩ : ∃ FE, codeErr (p, v, sl, l) = FE := ⟨_, rfl⟩
 have HFE := aM hFE
 obtain ⟨CE, hCE⟩ : ∃ CE, certErr ct = CE := ⟨_, rfl⟩
 have HCE := aM hCE
 clear hC hR hCT hlt
 by_cases hf : FE = 0
 case neg =>
  have HE := aM (show tellErr (j, n, (p, v, sl, l), ct) = 30 from tell_e1 (by rw [hFE]; exact hf))
  rw [HE.out]
  clear hFE hCE
  go_enter Try.func22, Try.ntmps22
  go_wp2_with ((go_at_call 56; refine (wcode_calls p v sl l A c _ (Kd.C_below HC.out HA.out) HR.out hll).mono ?_; rintro _ w1 ⟨hbo, hb⟩; have HB1 := aM (show Below (w.heap.size + 1) (w.alloc (.cells #[.int .i64 j, .int .u64 n, .int .i64 p, .int .i64 v, .int .i64 sl, .slice A l.length c, .slice A' ct.length c'] 57)) w1 from hb.mono (by rw [HSZ.out]; exact Nat.le_refl _)); rw [HFE.out] at hbo; clear hb); obtain rfl := hbo.1 hf; clear hbo)
  go_returns
  exact ⟨⟨fun _ => rfl, fun h => by cases h⟩, HA.out.trans (HB1.out.mono (by omega))⟩
 subst hf
 by_cases hce : CE = 0
 case neg =>
  have HE := aM (show tellErr (j, n, (p, v, sl, l), ct) = CE from (tell_e2 hFE (by rw [hCE]; exact hce)).trans hCE)
  rw [HE.out]
  have hcb : (CE != 0) = true := bne_iff_ne.mpr hce
  have hcb2 : (CE == 0) = false := beq_eq_false_iff_ne.mpr hce
  have HCN := aM hce
  clear hFE hCE hce
  go_enter Try.func22, Try.ntmps22
  go_wp2_with (first | ((go_at_call 56; refine (wcode_calls p v sl l A c _ (Kd.C_below HC.out HA.out) HR.out hll).mono ?_; rintro _ w1 ⟨hbo, hb⟩; have HB1 := aM (show Below (w.heap.size + 1) (w.alloc (.cells #[.int .i64 j, .int .u64 n, .int .i64 p, .int .i64 v, .int .i64 sl, .slice A l.length c, .slice A' ct.length c'] 57)) w1 from hb.mono (by rw [HSZ.out]; exact Nat.le_refl _)); rw [HFE.out] at hbo; clear hb); obtain ⟨A1, c1, rfl, hlc1, hC1⟩ := hbo.2 rfl; obtain ⟨n1, hn1'⟩ : ∃ n1, (codeL (p, v, sl, l)).length = n1 := ⟨_, rfl⟩; rw [hn1'] at hC1 hlc1 ⊢; have HC1 := aM hC1; have HN1 := aM hn1'; clear hbo hC1 hn1'; obtain ⟨x0, x1, x2, x3, x4, x5, x6⟩ := HX.out w1 HB1.out) | ((go_at_call 57; refine (wcert_calls ct A' c' _ (Kd.C_below HCT.out (HA.out.trans (HB1.out.mono (by omega)))) HLT.out).mono ?_; rintro _ w2 ⟨hbo, hb⟩; have HB2 := aM (show Below (w.heap.size + 1) (w.alloc (.cells #[.int .i64 j, .int .u64 n, .int .i64 p, .int .i64 v, .int .i64 sl, .slice A l.length c, .slice A' ct.length c'] 57)) w2 from HB1.out.trans (hb.mono (by have h := HB1.out.size; rw [HSZ.out] at h; exact h))); have HK2 := aM hb; rw [HCE.out] at hbo; clear hb); obtain rfl := hbo.1 HCN.out; clear hbo x0 x1 x2 x3 x4 x5 x6; obtain ⟨x0, x1, x2, x3, x4, x5, x6⟩ := HX.out w2 HB2.out))
  go_returns
  exact ⟨⟨fun _ => rfl, fun h => absurd h HCN.out⟩, HA.out.trans (HB2.out.mono (by omega))⟩
 subst hce
 by_cases hbad : j < 0 ∨ 16 ≤ j
 · rw [tell_e3 hFE hCE hbad]
   have hbd : (j < 0) ∨ (¬ j < 0 ∧ 16 ≤ j) := by omega
   clear hbad hFE hCE
   rcases hbd with h1 | ⟨h1, h2⟩
   all_goals
    go_enter Try.func22, Try.ntmps22
    go_wp2_with (first | ((go_at_call 56; refine (wcode_calls p v sl l A c _ (Kd.C_below HC.out HA.out) HR.out hll).mono ?_; rintro _ w1 ⟨hbo, hb⟩; have HB1 := aM (show Below (w.heap.size + 1) (w.alloc (.cells #[.int .i64 j, .int .u64 n, .int .i64 p, .int .i64 v, .int .i64 sl, .slice A l.length c, .slice A' ct.length c'] 57)) w1 from hb.mono (by rw [HSZ.out]; exact Nat.le_refl _)); rw [HFE.out] at hbo; clear hb); obtain ⟨A1, c1, rfl, hlc1, hC1⟩ := hbo.2 rfl; obtain ⟨n1, hn1'⟩ : ∃ n1, (codeL (p, v, sl, l)).length = n1 := ⟨_, rfl⟩; rw [hn1'] at hC1 hlc1 ⊢; have HC1 := aM hC1; have HN1 := aM hn1'; clear hbo hC1 hn1'; obtain ⟨x0, x1, x2, x3, x4, x5, x6⟩ := HX.out w1 HB1.out) | ((go_at_call 57; refine (wcert_calls ct A' c' _ (Kd.C_below HCT.out (HA.out.trans (HB1.out.mono (by omega)))) HLT.out).mono ?_; rintro _ w2 ⟨hbo, hb⟩; have HB2 := aM (show Below (w.heap.size + 1) (w.alloc (.cells #[.int .i64 j, .int .u64 n, .int .i64 p, .int .i64 v, .int .i64 sl, .slice A l.length c, .slice A' ct.length c'] 57)) w2 from HB1.out.trans (hb.mono (by have h := HB1.out.size; rw [HSZ.out] at h; exact h))); have HK2 := aM hb; rw [HCE.out] at hbo; clear hb); obtain ⟨A2, c2, rfl, hlc2, hC2⟩ := hbo.2 rfl; obtain ⟨n2, hn2'⟩ : ∃ n2, (certL ct).length = n2 := ⟨_, rfl⟩; rw [hn2'] at hC2 hlc2 ⊢; clear hbo hC2 hlc2 hn2' x0 x1 x2 x3 x4 x5 x6; obtain ⟨x0, x1, x2, x3, x4, x5, x6⟩ := HX.out w2 HB2.out))
    go_returns
    exact ⟨⟨fun _ => rfl, fun h => by cases h⟩, HA.out.trans (HB2.out.mono (by omega))⟩
 · have hj0 : 0 ≤ j := by omega
   have hj1 : j < 16 := by omega
   have HFL := aM (code_len p v sl l hFE HR.out)
   have HCL := aM (cert_len ct hCE HLT.out)
   have h1 : ¬ j < 0 := by omega
   have h2 : ¬ 16 ≤ j := by omega
   obtain ⟨TE, hTE⟩ : ∃ TE, tellErr (j, n, (p, v, sl, l), ct) = TE := ⟨_, rfl⟩
   have HTE := aM (show TE = if 65536 < (tellB (j, n, (p, v, sl, l), ct)).length then 4 else 0 from by
    rw [← hTE]
    split
    · rename_i h; exact tell_e4 hFE hCE hbad h
    · rename_i h; exact tell_e0 hFE hCE hbad h)
   rw [hTE]
   clear hbad hFE hCE hTE
   go_enter Try.func22, Try.ntmps22
   go_upto_region 9 with (first | ((go_at_call 56; refine (wcode_calls p v sl l A c _ (Kd.C_below HC.out HA.out) HR.out hll).mono ?_; rintro _ w1 ⟨hbo, hb⟩; have HB1 := aM (show Below (w.heap.size + 1) (w.alloc (.cells #[.int .i64 j, .int .u64 n, .int .i64 p, .int .i64 v, .int .i64 sl, .slice A l.length c, .slice A' ct.length c'] 57)) w1 from hb.mono (by rw [HSZ.out]; exact Nat.le_refl _)); rw [HFE.out] at hbo; clear hb); obtain ⟨A1, c1, rfl, hlc1, hC1⟩ := hbo.2 rfl; obtain ⟨n1, hn1'⟩ : ∃ n1, (codeL (p, v, sl, l)).length = n1 := ⟨_, rfl⟩; rw [hn1'] at hC1 hlc1 ⊢; have HC1 := aM hC1; have HN1 := aM hn1'; clear hbo hC1 hn1'; obtain ⟨x0, x1, x2, x3, x4, x5, x6⟩ := HX.out w1 HB1.out) | ((go_at_call 57; refine (wcert_calls ct A' c' _ (Kd.C_below HCT.out (HA.out.trans (HB1.out.mono (by omega)))) HLT.out).mono ?_; rintro _ w2 ⟨hbo, hb⟩; have HB2 := aM (show Below (w.heap.size + 1) (w.alloc (.cells #[.int .i64 j, .int .u64 n, .int .i64 p, .int .i64 v, .int .i64 sl, .slice A l.length c, .slice A' ct.length c'] 57)) w2 from HB1.out.trans (hb.mono (by have h := HB1.out.size; rw [HSZ.out] at h; exact h))); have HK2 := aM hb; rw [HCE.out] at hbo; clear hb); obtain ⟨A2, c2, rfl, hlc2, hC2⟩ := hbo.2 rfl; obtain ⟨n2, hn2'⟩ : ∃ n2, (certL ct).length = n2 := ⟨_, rfl⟩; rw [hn2'] at hC2 hlc2 ⊢; have HC2 := aM hC2; have HN2 := aM hn2'; clear hbo hC2 hn2' x0 x1 x2 x3 x4 x5 x6; obtain ⟨x0, x1, x2, x3, x4, x5, x6⟩ := HX.out w2 HB2.out))
   have HXK := aM (show ∀ W', Keep (fun _ => False) w2.drew W' → TellC W' w.heap.size j n p v sl (.slice A l.length c) (.slice A' ct.length c') from fun W' h => HX.out W' (Keep.below_then HB2.out.drew h (by have h1 := HB2.out.size; rw [HSZ.out] at h1; exact h1) (fun _ _ => id)))
   have hn17 : n1 ≤ 700000 := by have := HFL.out; have := HN1.out; omega
   have hn27 : n2 ≤ 400000 := by have := HCL.out; have := HN2.out; omega
   clear x0 x1 x2 x3 x4 x5 x6
   refine rk_start (fun _ => False) (by kernel_rfl) (n := 12) (l := (bl 12 0)) (by kernel_rfl) (by kernel_rfl) ?_
   refine kt 0 (bl 12 1) rfl (fun w' hR => by go_simp; first | done | with_reducible rfl) rfl ?_
   try simp only [Act.put, pB, pC, pD]
   refine kt 1 (bl 12 3) rfl (fun w' hR => by obtain ⟨x0, x1, x2, x3, x4, x5, x6⟩ := HXK.out w' hR; go_simp; first | done | with_reducible rfl) rfl ?_
   try simp only [Act.put, pB, pC, pD]
   refine kt 2 (bl 12 7) rfl (fun w' hR => by have x9 := wrU64 j (by omega) (by omega); go_simp; first | done | with_reducible rfl) rfl ?_
   try simp only [Act.put, pB, pC, pD]
   refine kt 4 (bl 12 23) rfl (fun w' hR => by go_simp; first | done | with_reducible rfl) rfl ?_
   try simp only [Act.put, pB, pC, pD]
   refine kt 5 (bl 12 55) rfl (fun w' hR => by obtain ⟨x0, x1, x2, x3, x4, x5, x6⟩ := HXK.out w' hR; go_simp; first | done | with_reducible rfl) rfl ?_
   try simp only [Act.put, pB, pC, pD]
   refine kt 7 (bl 12 183) rfl (fun w' hR => by go_simp; first | done | with_reducible rfl) rfl ?_
   try simp only [Act.put, pB, pC, pD]
   refine kt 8 (bl 12 439) rfl (fun w' hR => by go_simp; first | done | with_reducible rfl) rfl ?_
   try simp only [Act.put, pB, pC, pD]
   refine kt 9 (bl 12 951) rfl (fun w' hR => by have x9 := wrU64 (n1 : Int) (by omega) (by omega); go_simp; first | done | with_reducible rfl) rfl ?_
   try simp only [Act.put, pB, pC, pD]
   refine rk_step (fuel := 3) 3 rfl (by kernel_rfl) (listed' := (bl 12 959)) (by kernel_rfl) (by kernel_rfl) (fun K' hK => ?_)
   go_wp2_with (go_at_call 38; refine (lput_n [] 0 rfl none 0 j (by omega) (by omega) _ (C_nil .u8 _) (by omega)).mono ?_; rintro _ w3 ⟨m3, A3, n3, c3, rfl, hm3, hmn3, hn3, hc3, -, hC3, hb3⟩; have HM3 := aM hm3; have HMN3 := aM hmn3; have HC3 := aM hC3; have HB3 := aM hb3; clear hm3 hmn3 hC3 hb3)
   refine hK.out _ _ (Keep.of_below HB3.out) ?_
   clear hK K'
   try simp only [Act.put, pB, pC, pD]
   refine rk_step (fuel := 2) 6 rfl (by kernel_rfl) (listed' := (bl 12 1023)) (by kernel_rfl) (by kernel_rfl) (fun K' hK => ?_)
   go_wp2_with (go_at_call 38; refine (lput_n m3 n3 HMN3.out A3 c3 n hn0 hn1 _ HC3.out (by omega)).mono ?_; rintro _ w4 ⟨m4, A4, n4, c4, rfl, hm4, hmn4, hn4, hc4, -, hC4, hb4⟩; have HM4 := aM hm4; have HMN4 := aM hmn4; have HC4 := aM hC4; have HB4 := aM hb4; clear hm4 hmn4 hC4 hb4)
   refine hK.out _ _ (Keep.of_below HB4.out) ?_
   clear hK K'
   try simp only [Act.put, pB, pC, pD]
   refine rk_step (fuel := 1) 10 rfl (by kernel_rfl) (listed' := (bl 12 2047)) (by kernel_rfl) (by kernel_rfl) (fun K' hK => ?_)
   go_wp2_with (go_at_call 38; refine (lput_n m4 n4 HMN4.out A4 c4 n1 (by omega) (by omega) _ HC4.out (by omega)).mono ?_; rintro _ w5 ⟨m5, A5, n5, c5, rfl, hm5, hmn5, hn5, hc5, hR5, hC5, hb5⟩; have HM5 := aM hm5; have HMN5 := aM hmn5; have HR5 := aM hR5; have HB5 := aM hb5; clear hm5 hmn5 hC5 hR5 hb5)
   refine hK.out _ _ (Keep.of_below HB5.out) ?_
   clear hK K'
   try simp only [Act.put, pB, pC, pD]
   refine kt 11 (bl 12 4095) rfl (fun w' hR => by go_simp; first | done | with_reducible rfl) rfl ?_
   try simp only [Act.put, pB, pC, pD]
   refine rk_done (by kernel_rfl) ?_
   have HW2 := aM (HA.out.trans (HB2.out.mono (by omega)))
   have HV3 := aM (show Below w2.heap.size w2 w3 from (Below.refl _ _).drew.trans HB3.out)
   have HV4 := aM (HV3.out.trans (HB4.out.mono HV3.out.size))
   have HV5 := aM (HV4.out.trans (HB5.out.mono HV4.out.size))
   have HR5' := aM (Kd.R_lower HR5.out HV4.out.size)
   have HC15 := aM (Kd.C_below (Kd.C_below HC1.out HK2.out) HV5.out)
   obtain ⟨cb, hcb⟩ : ∃ cb, codeL (p, v, sl, l) = cb := ⟨_, rfl⟩
   obtain ⟨lb, hlb⟩ : ∃ lb, certL ct = lb := ⟨_, rfl⟩
   obtain ⟨AL, hAL⟩ : ∃ AL, tellB (j, n, (p, v, sl, l), ct) = AL := ⟨_, rfl⟩
   have HALB := aM (show By AL by rw [← hAL]; exact tell_byB _)
   have HAL := aM (show m5 ++ cb ++ lb = AL by rw [← hAL, HM5.out, HM4.out, HM3.out, ← hcb, ← hlb]; simp [tellB, field_num j hj0 (by omega), HN1.out, field_num (n1 : Int) (by omega) (by omega), List.append_assoc])
   have HTL := aM (show tellL (j, n, (p, v, sl, l), ct) = layL 3 AL by rw [← hAL]; rfl)
   rw [hAL] at HTE
   rw [hcb] at HC15 HN1
   rw [hlb] at HC2 HN2
   obtain ⟨m6, hm6⟩ : ∃ m6, m5 ++ cb = m6 := ⟨_, rfl⟩
   have HM6 := aM hm6
   rw [hm6] at HAL
   obtain ⟨n6, hn6⟩ : ∃ n6, m6.length = n6 := ⟨_, rfl⟩
   have HN6 := aM hn6
   have hn6b : n6 ≤ 800000 := by rw [← hn6, ← hm6, List.length_append, HMN5.out, HN1.out]; omega
   obtain ⟨fl, hfl⟩ : ∃ fl, layL 3 AL = fl := ⟨_, rfl⟩
   obtain ⟨nf, hnf⟩ : ∃ nf, fl.length = nf := ⟨_, rfl⟩
   obtain ⟨na, hna⟩ : ∃ na, AL.length = na := ⟨_, rfl⟩
   have HNA := aM hna
   have HNF := aM hnf
   have HFLL := aM hfl
   clear hAL hfl hnf hna hcb hlb hm6 hn6
   by_cases hbig : 65536 < na
   · have HT4 := aM (show TE = 4 by rw [HTE.out]; exact if_pos (by rw [HNA.out]; exact hbig))
     go_wp2_with (first
      | ((with_reducible refine gate_builtin (b := .append) (xs := #[.tmp 47, .tmp 48]) rfl ?_); at_builtin; refine Kd.R_append_rows (Kd.int .u8) (w0 := w2) w2.heap.size rfl (.tmp 47) (.tmp 48) 28 5 (.int .u8 0) 1 rfl Try.underlying28 infoU8 rfl (by decide) (by omega) (.slice A5 n5 c5) m5 cb _ _ _ (fun _ => True) (fun _ => False) rfl rfl ?aO ?aR (fun _ _ h => h) (fun _ h => h.elim) ?aF ?aB ?aS ?aL ?_; (case aR => exact HC15.out); (case aB => exact HV5.out); (case aF => exact (fun _ _ => trivial)); (case aO => exact HR5'.out); (case aS => (have := HV5.out.size; omega)); (case aL => (have := HMN5.out; have := HN1.out; omega)); (intro v6 w6 ho hb6 hg hat; rw [HM6.out] at ho; obtain ⟨A6, c6, rfl, hlc6, -⟩ := Kd.R_reads ho; rw [HN6.out] at hlc6 ho ⊢; have HO6 := aM ho; have HB6 := aM hb6; have HC26 := aM (Kd.C_below HC2.out hb6); clear ho hb6 hg hat))
      | ((with_reducible refine gate_builtin (b := .append) (xs := #[.tmp 49, .tmp 50]) rfl ?_); at_builtin; refine Kd.R_append_rows (Kd.int .u8) (w0 := w2) w2.heap.size rfl (.tmp 49) (.tmp 50) 28 5 (.int .u8 0) 1 rfl Try.underlying28 infoU8 rfl (by decide) (by omega) (.slice A6 n6 c6) m6 lb _ _ _ (fun _ => True) (fun _ => False) rfl rfl ?aO ?aR (fun _ _ h => h) (fun _ h => h.elim) ?aF ?aB ?aS ?aL ?_; (case aR => exact HC26.out); (case aB => exact HB6.out); (case aF => exact (fun _ _ => trivial)); (case aO => exact HO6.out); (case aS => (have := HB6.out.size; omega)); (case aL => (have := HN6.out; have := HN2.out; omega)); (intro v7 w7 ho hb7 hg hat; rw [HAL.out] at ho; obtain ⟨A7, c7, rfl, hlc7, hC7⟩ := Kd.R_reads ho; rw [HNA.out] at hlc7 hC7 ⊢; have HC7 := aM hC7; have HB7 := aM hb7; clear ho hb7 hg hat hC7))
      | (go_at_call 39; refine (lay_long_n 3 A7 c7 AL na HNA.out _ hbig).mono ?_; rintro _ w8 ⟨rfl, hw⟩; rw [hw]; clear hw))
     go_returns
     rw [HT4.out]
     exact ⟨⟨fun _ => rfl, fun h => by cases h⟩, HW2.out.trans (HB7.out.mono HW2.out.size)⟩
   · have HT0 := aM (show TE = 0 by rw [HTE.out]; exact if_neg (by rw [HNA.out]; exact hbig))
     go_wp2_with (first
      | ((with_reducible refine gate_builtin (b := .append) (xs := #[.tmp 47, .tmp 48]) rfl ?_); at_builtin; refine Kd.R_append_rows (Kd.int .u8) (w0 := w2) w2.heap.size rfl (.tmp 47) (.tmp 48) 28 5 (.int .u8 0) 1 rfl Try.underlying28 infoU8 rfl (by decide) (by omega) (.slice A5 n5 c5) m5 cb _ _ _ (fun _ => True) (fun _ => False) rfl rfl ?aO ?aR (fun _ _ h => h) (fun _ h => h.elim) ?aF ?aB ?aS ?aL ?_; (case aR => exact HC15.out); (case aB => exact HV5.out); (case aF => exact (fun _ _ => trivial)); (case aO => exact HR5'.out); (case aS => (have := HV5.out.size; omega)); (case aL => (have := HMN5.out; have := HN1.out; omega)); (intro v6 w6 ho hb6 hg hat; rw [HM6.out] at ho; obtain ⟨A6, c6, rfl, hlc6, -⟩ := Kd.R_reads ho; rw [HN6.out] at hlc6 ho ⊢; have HO6 := aM ho; have HB6 := aM hb6; have HC26 := aM (Kd.C_below HC2.out hb6); clear ho hb6 hg hat))
      | ((with_reducible refine gate_builtin (b := .append) (xs := #[.tmp 49, .tmp 50]) rfl ?_); at_builtin; refine Kd.R_append_rows (Kd.int .u8) (w0 := w2) w2.heap.size rfl (.tmp 49) (.tmp 50) 28 5 (.int .u8 0) 1 rfl Try.underlying28 infoU8 rfl (by decide) (by omega) (.slice A6 n6 c6) m6 lb _ _ _ (fun _ => True) (fun _ => False) rfl rfl ?aO ?aR (fun _ _ h => h) (fun _ h => h.elim) ?aF ?aB ?aS ?aL ?_; (case aR => exact HC26.out); (case aB => exact HB6.out); (case aF => exact (fun _ _ => trivial)); (case aO => exact HO6.out); (case aS => (have := HB6.out.size; omega)); (case aL => (have := HN6.out; have := HN2.out; omega)); (intro v7 w7 ho hb7 hg hat; rw [HAL.out] at ho; obtain ⟨A7, c7, rfl, hlc7, hC7⟩ := Kd.R_reads ho; rw [HNA.out] at hlc7 hC7 ⊢; have HC7 := aM hC7; have HB7 := aM hb7; clear ho hb7 hg hat hC7))
      | (go_at_call 39; refine (lay_n 3 (by decide) (by decide) A7 c7 AL na HNA.out fl nf HFLL.out HNF.out _ HC7.out hlc7 HALB.out (by omega)).mono ?_; rintro e w8 ⟨A8, c8, rfl, -, hC8, hc8, hb8⟩; have HC8 := aM hC8; have HB8 := aM (HB7.out.trans (hb8.mono HB7.out.size)); clear hC8 hb8))
     go_returns
     rw [HT0.out, HTL.out, HFLL.out]
     exact ⟨⟨fun h => absurd rfl h, fun _ => ⟨A8, c8, by rw [HNF.out]; rfl, by rw [HNF.out]; exact hc8, by rw [HNF.out]; exact HC8.out⟩⟩, HW2.out.trans (HB8.out.mono HW2.out.size)⟩
end Go.Proofs.Ytnckonglodmfeaa.Ik
