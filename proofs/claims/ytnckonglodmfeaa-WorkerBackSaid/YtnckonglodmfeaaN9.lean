/- Contracts and plain facts that the statements' proofs use (part 9). -/
import Derived.Test.YtnckonglodmfeaaN3
import Derived.Test.YtnckonglodmfeaaN5
import Derived.Test.YtnckonglodmfeaaN6
import Derived.Test.YtnckonglodmfeaaN7
import Derived.Test.YtnckonglodmfeaaN8
set_option linter.unusedVariables false
set_option linter.unusedSimpArgs false
namespace Go.Proofs.Ytnckonglodmfeaa.Ik
open Ls Lc Go.RowKit Go.Proofs.YtnckonglodmfeaaW.PrintWords Go.Proofs.YtnckonglodmfeaaW.PrintLast Go.Proofs.YtnckonglodmfeaaW.PrintMore B R S Is Js
def sPr (s : St) : Pr × St := (((sBelow 4096 s).1, (sBelow 4096 (sBelow 4096 s).2).1), (sBelow 4096 (sBelow 4096 s).2).2)
def sPrs : Nat → St → List Pr × St
 | 0, s => ([], s)
 | n + 1, s => if (sPrs n s).2.2 = 0 then ((sPrs n s).1 ++ [(sPr (sPrs n s).2).1], (sPr (sPrs n s).2).2) else sPrs n s
def sPL (s : St) : List Pr × St := sPrs (sBelow 65536 s).1.toNat (sBelow 65536 s).2
def sCrtN : Nat → St → Crt × St
 | 0, s => ([], s)
 | n + 1, s => if (sCrtN n s).2.2 = 0 then ((sCrtN n s).1 ++ [(sPL (sCrtN n s).2).1], (sPL (sCrtN n s).2).2) else sCrtN n s
def sCert (l : List Int) : Crt × Int := ((sCrtN (sBelow 17 (l, 0)).1.toNat (sBelow 17 (l, 0)).2).1, ended (sCrtN (sBelow 17 (l, 0)).1.toNat (sBelow 17 (l, 0)).2).2.1 (sCrtN (sBelow 17 (l, 0)).1.toNat (sBelow 17 (l, 0)).2).2.2)
theorem prs_succ {n : Nat} {s : St} (h : (sPrs n s).2.2 = 0) : sPrs (n + 1) s = ((sPrs n s).1 ++ [(sPr (sPrs n s).2).1], (sPr (sPrs n s).2).2) := by rw [sPrs, if_pos h]
theorem prs_same {n : Nat} {s : St} (h : (sPrs n s).2.2 ≠ 0) : sPrs (n + 1) s = sPrs n s := by rw [sPrs, if_neg h]
theorem pr_by {s : St} (h : By s.1) : By (sPr s).2.1 := sbelow_by (sbelow_by h)
theorem crt_step {x : Nat} {s1 sx si : St} {bs : Crt} {ps : List Pr} {m : Nat} {s2 : St} (h1 : (sCrtN x s1).2 = sx) (h2 : sx.2 = 0 → (sCrtN x s1).1 = bs) (hm : sBelow 65536 sx = ((m : Int), s2)) (h3 : (sPrs m s2).2 = si) (h4 : si.2 = 0 → (sPrs m s2).1 = ps) :
 (sCrtN (x + 1) s1).2 = si ∧ (si.2 = 0 → (sCrtN (x + 1) s1).1 = bs ++ [ps]) := by
 have hpl : sPL sx = sPrs m s2 := by unfold sPL; rw [hm]; rfl
 by_cases h : sx.2 = 0
 · rw [sCrtN, h1, if_pos h, hpl, h2 h]
   exact ⟨h3, fun h0 => by rw [h4 h0]⟩
 · have hs := below_stuck 65536 sx h
   rw [hm] at hs
   injection hs with e1 e2
   have hm0 : m = 0 := by omega
   subst e2 hm0
   have e3 : s2 = si := h3
   subst e3
   rw [sCrtN, h1, if_neg h]
   exact ⟨h1, fun h0 => absurd h0 h⟩
def CertRet (w' : World) (base : Nat) (x : Crt × Int) (e : Ending) : Prop :=
 ∃ v bs, e = .returned (.tuple #[v, .int .i64 x.2]) ∧ kPs.R 58 w' base (fun _ => True) v bs ∧ ((x.2 = 0 ∧ x.1 = bs) ∨ (x.2 ≠ 0 ∧ bs = []))
theorem pair_M {w : World} {base : Nat} {ok : Nat → Prop} {v l : Int} : kP.M w base ok (v, l) [.int .i64 v, .int .i64 l] := ⟨[.int .i64 v], [.int .i64 l], rfl, rfl, rfl⟩
theorem prs_M {w : World} {base : Nat} {ok : Nat → Prop} {ps : List Pr} {v : Value} (h : kP.R 61 w base ok v ps) : kPs.M w base ok ps [v] := ⟨v, rfl, h⟩
set_option maxHeartbeats 4000000 in
set_option maxRecDepth 100000 in
theorem wread_cert (A : Option Addr) (c : Nat) (l : List Int) (w : World) (hC : kU8.C w A l.length l) (hll : l.length ≤ 1000000) (hby : By l) :
 Calls Try.prog 62 #[.slice A l.length c] w fun e w' => CertRet w' w.heap.size (sCert l) e ∧ Below w.heap.size w w' := by
 have mixed : Try.prog.follows .mixedOrders = true := by kernel_rfl
 have HC := aM hC
 have HBY := aM hby
 have hr17 := below_range (m := 17) (s := (l, 0)) (by decide) hby
 obtain ⟨N, hN⟩ : ∃ N : Nat, (sBelow 17 (l, 0)).1 = (N : Int) := ⟨(sBelow 17 (l, 0)).1.toNat, by omega⟩
 obtain ⟨s1, hs1⟩ : ∃ s1, (sBelow 17 (l, 0)).2 = s1 := ⟨_, rfl⟩
 have hN16 : N ≤ 16 := by omega
 have hS : sCert l = ((sCrtN N s1).1, ended (sCrtN N s1).2.1 (sCrtN N s1).2.2) := by unfold sCert; rw [hN, hs1]; rfl
 rw [hS]
 have HN := aM hN
 have HS1 := aM hs1
 clear hC hby hr17 hN hs1 hS
 go_enter Try.func62, Try.ntmps62
 go_wp2_with (first
  | (go_at_call 93; refine (new_calls A c l _ HC.out (by omega)).mono ?_; rintro _ w1 ⟨g, b, rfl, hr, hb, hg1, hb1, hb2⟩; have HDa := aM (show Rd w1 g b (l, 0) from ⟨hr, HBY.out, hb2⟩); have HW1 := aM hb; have hgl := hr.lt; clear hr hb)
  | (go_at_call 46; refine (rd_below g b (l, 0) 17 _ HDa.out (by decide) (by decide)).mono ?_; rintro _ w2 ⟨rfl, hd, hk, -⟩; rw [HS1.out] at hd; rw [HN.out]; have HD := aM hd; have HK := aM (hk.mono (S' := fun i => i = g ∨ w1.heap.size ≤ i) (fun i _ e => .inl e)); clear hd hk HDa))
 go_loopw [5, 12] (fun vo vi wr => ∃ x : Nat, x ≤ N ∧ vi = .int .i64 x ∧ ∃ bs sx, Aside0 (kPs.R 58 wr w1.heap.size (fun _ => True) vo bs) ∧ Aside0 (Rd wr g b sx) ∧ Aside0 (bs.length = x) ∧ Aside0 ((sCrtN x s1).2 = sx ∧ (sx.2 = 0 → (sCrtN x s1).1 = bs)) ∧ Aside0 (Keep (fun i => i = g ∨ w1.heap.size ≤ i) w1 wr)) (fun _ vi _ => N - (intOf vi).toNat)
 case atStart => exact ⟨0, by omega, rfl, [], s1, ⟨Kd.R_nil _ _ _ _ _⟩, HD, ⟨rfl⟩, ⟨rfl, fun _ => rfl⟩, HK⟩
 case round =>
  clear HD HK
  obtain ⟨wo, hwo⟩ : ∃ wo, wo = wr := ⟨_, rfl⟩
  subst hwo
  obtain ⟨x, hx, rfl, bs, sx, HO, HD, HLN, HB, HK⟩ := hrel
  have hzo := HK.out.size
  by_cases hxN : x < N
  · have hrm := below_range (m := 65536) (s := sx) (by decide) HD.out.2.1
    obtain ⟨m, s2, hm⟩ : ∃ (m : Nat) (s2 : St), sBelow 65536 sx = ((m : Int), s2) := ⟨(sBelow 65536 sx).1.toNat, (sBelow 65536 sx).2, by rw [Int.toNat_of_nonneg hrm.1]⟩
    have hm6 : m < 65536 := by rw [hm] at hrm; simp only at hrm; omega
    have HM := aM hm
    have hbl : bs.length ≤ 16 := by rw [HLN.out]; omega
    clear hrm hm
    go_wp2_with (go_at_call 46; refine (rd_below g b sx 65536 _ HD.out (by decide) (by decide)).mono ?_; rintro _ wa ⟨rfl, hd, hk, hs⟩; rw [HM.out] at hd ⊢; have HD2 := aM hd; have HKa := aM hk; have HZa := aM hs; clear hd hk hs HD)
    have HOa := aM (Kd.R_step (w1 := wa) (Kd.R_mono (Kd.R_bound HO.out) (ok' := fun k => w1.heap.size ≤ k ∧ k < wo.heap.size) (fun k hk => ⟨hk.2.1, hk.2.2.1⟩)) (fun k hk hl => HKa.out.block k hl (fun e => by have e : k = g := e; omega)))
    have hza := HZa.out
    have hwa : w1.heap.size ≤ wa.heap.size := by omega
    clear hza
    go_loopw [6, 16] (fun vl vi wi => ∃ i : Nat, i ≤ m ∧ vi = .int .i64 i ∧ ∃ ps si, ps.length ≤ i ∧ Aside0 (kP.R 61 wi wa.heap.size (fun _ => True) vl ps) ∧ Aside0 (Rd wi g b si) ∧ Aside0 ((sPrs i s2).2 = si ∧ (si.2 = 0 → (sPrs i s2).1 = ps)) ∧ Aside0 (Keep (fun i => i = g ∨ wa.heap.size ≤ i) wa wi)) (fun _ vi _ => m - (intOf vi).toNat)
    case atStart => exact ⟨0, by omega, rfl, [], s2, by simp, ⟨Kd.R_nil _ _ _ _ _⟩, HD2, ⟨rfl, fun _ => rfl⟩, ⟨Keep.refl _ _⟩⟩
    case round =>
     clear HD2
     obtain ⟨wi, hwi⟩ : ∃ wi, wi = wr := ⟨_, rfl⟩
     subst hwi
     obtain ⟨i, hi, rfl, ps, si, hpl, HV, HDi, HS, HKi⟩ := hrel
     obtain ⟨Al, cl, hvl, -, -⟩ := Kd.R_reads HV.out
     obtain ⟨nl, hnl⟩ : ∃ nl, ps.length = nl := ⟨_, rfl⟩
     rw [hnl] at hvl
     subst hvl
     have HNL := aM hnl
     have hzi := HKi.out.size
     have hg1' := hgl
     by_cases him : i < m
     · by_cases hc : si.2 = 0
       · have HCD := aM hc
         obtain ⟨pv, sa, ha⟩ : ∃ pv sa, sBelow 4096 si = (pv, sa) := ⟨_, _, rfl⟩
         obtain ⟨pl, sb, hb⟩ : ∃ pl sb, sBelow 4096 sa = (pl, sb) := ⟨_, _, rfl⟩
         have HPA := aM ha
         have HPB := aM hb
         have HNX := aM (show sPrs (i + 1) s2 = (ps ++ [(pv, pl)], sb) from by
          rw [prs_succ (by rw [HS.out.1]; exact hc), HS.out.1, HS.out.2 hc]
          simp only [sPr, ha, hb])
         clear hc ha hb hnl
         go_wp2_with (first
          | (go_at_call 99; refine (rd_code g b si _ HDi.out).mono ?_; rintro _ _ ⟨rfl, rfl⟩; rw [HCD.out])
          | (go_at_call 46; refine (rd_below g b si 4096 _ HDi.out (by decide) (by decide)).mono ?_; rintro _ wb ⟨rfl, hd, hk, -⟩; rw [HPA.out] at hd ⊢; have HDb := aM hd; have HKb := aM hk; clear hd hk HDi)
          | (go_at_call 46; refine (rd_below g b sa 4096 _ HDb.out (by decide) (by decide)).mono ?_; rintro _ wc ⟨rfl, hd, hk, -⟩; rw [HPB.out] at hd ⊢; have HDc := aM hd; have HKc := aM (HKb.out.trans hk); clear hd hk HDb)
          | ((with_reducible refine gate_builtin (b := .append) (xs := #[.tmp 21, .tmp 27]) rfl ?_); at_builtin; refine Kd.R_append kP (w0 := wc) wa.heap.size rfl (.tmp 21) (.tmp 27) 58 61 (.agg #[.int .i64 0, .int .i64 0]) 16 rfl Try.underlying58 infoP rfl (show 0 < 2 by decide) (by decide) (.slice Al nl cl) ps (pv, pl) [.int .i64 pv, .int .i64 pl] (fun _ => True) (fun _ => False) rfl rfl pair_M (fun _ h => h.elim) (fun _ _ => trivial) (Kd.R_mono (Kd.R_step (Kd.R_mono (Kd.R_bound HV.out) (ok' := fun k => wa.heap.size ≤ k) (fun k hk => hk.2.1)) (fun k hk hl => HKc.out.block k hl (fun e => by have e : k = g := e; omega))) (fun _ _ => trivial)) (Below.refl _ _) (Nat.le_trans hzi HKc.out.size) (by omega) ?_; intro v4 w4 ho4 hb4 hg4 hat4; have HO4 := aM ho4; have HB4 := aM hb4; clear ho4 hb4 hg4 hat4))
         go_roundw
         case rel =>
          have hgb : b < wa.heap.size := by omega
          have hkk : Keep (fun i => i = g ∨ wa.heap.size ≤ i) wc w4 := (keep_of_below HB4.out).mono (fun i _ h => .inr h)
          exact ⟨i + 1, by omega, by go_num, _, sb, by simp; omega, HO4, ⟨HDc.out.keep (keep_of_below HB4.out) (by omega) (by omega)⟩, ⟨by rw [HNX.out], fun _ => by rw [HNX.out]⟩, ⟨(HKi.out.trans (HKc.out.mono (fun i _ e => .inl e))).trans hkk⟩⟩
         case measure => simp [intOf]; omega
       · have hcb : (si.2 == 0) = false := beq_eq_false_iff_ne.mpr hc
         have HNX := aM (show sPrs (i + 1) s2 = sPrs i s2 from prs_same (by rw [HS.out.1]; exact hc))
         clear hc hnl
         go_wp2_with (go_at_call 99; refine (rd_code g b si _ HDi.out).mono ?_; rintro _ _ ⟨rfl, rfl⟩)
         go_roundw
         case rel => exact ⟨i + 1, by omega, by go_num, ps, si, by omega, HV, HDi, ⟨by rw [HNX.out]; exact HS.out⟩, HKi⟩
         case measure => simp [intOf]; omega
     · obtain rfl : i = m := by omega
       have HNX := aM (crt_step HB.out.1 HB.out.2 HM.out HS.out.1 HS.out.2)
       clear hnl
       go_wp2_with ((with_reducible refine gate_builtin (b := .append) (xs := #[.tmp 30, .tmp 32]) rfl ?_); at_builtin; refine Kd.R_append kPs (w0 := wi) w1.heap.size rfl (.tmp 30) (.tmp 32) 55 58 (.slice none 0 0) 24 rfl Try.underlying55 infoPs rfl (show 0 < 1 by decide) (by decide) u5 bs ps [.slice Al nl cl] (fun _ => True) (fun k => wa.heap.size ≤ k) rfl rfl (prs_M (Kd.R_lower (Kd.R_mono (Kd.R_bound HV.out) (fun k hk => hk.2.1)) hwa)) (fun k hk => ⟨trivial, fun e => by have h := ((Kd.R_bound HOa.out).1 k e.symm).1.2; have := HZa.out; omega⟩) (fun _ _ => trivial) (Kd.R_mono (Kd.R_step HOa.out (fun k hk hl => HKi.out.block k hl (fun e => by have := HZa.out; omega))) (fun _ _ => trivial)) (Below.refl _ _) (Nat.le_trans hwa hzi) (by omega) ?_; intro v4 w4 ho4 hb4 hg4 hat4; have HO4 := aM ho4; have HB4 := aM hb4; clear ho4 hb4 hg4 hat4)
       go_roundw
       case rel =>
        exact ⟨x + 1, by omega, by go_num, _, si, HO4, ⟨HDi.out.keep (keep_of_below HB4.out) (by omega) (by omega)⟩, ⟨by rw [List.length_append, HLN.out]; rfl⟩, HNX, ⟨(HK.out.trans (HKa.out.mono (fun i _ e => .inl e))).trans ((HKi.out.mono (fun i _ h => h.imp id (fun h => Nat.le_trans hwa h))).trans ((keep_of_below HB4.out).mono (fun i _ h => .inr h)))⟩⟩
       case measure => simp [intOf]; omega
  · obtain rfl : x = N := by omega
    obtain ⟨E, hE⟩ : ∃ E, ended sx.1 sx.2 = E := ⟨_, rfl⟩
    have HE := aM hE
    have HBW := aM (show ∀ W', Keep (· = g) wo W' → Below w.heap.size w W' from fun W' h => HW1.out.trans ((HK.out.trans (h.mono (fun i _ e => .inl e))).below HW1.out.size (fun i h1 h2 => by omega)))
    have HXX := aM (show ended (sCrtN x s1).2.1 (sCrtN x s1).2.2 = E from by rw [HB.out.1]; exact hE)
    obtain ⟨Ao, co, hvo, -, -⟩ := Kd.R_reads HO.out
    obtain ⟨no, hno⟩ : ∃ no, bs.length = no := ⟨_, rfl⟩
    rw [hno] at hvo
    subst hvo
    have HOK := aM (show E = 0 → (sCrtN x s1).1 = bs from fun h => HB.out.2 (ended_ok (by rw [hE]; exact h)))
    clear hE hno
    by_cases hE0 : E = 0
    · subst hE0
      go_wp2_with (go_at_call 50; refine (rd_end g b sx _ HD.out).mono ?_; rintro _ w6 ⟨rfl, hk, -⟩; rw [HE.out]; have HK6 := aM hk; clear hk)
      go_returns
      rw [HXX.out]
      have hz := HW1.out.size
      refine ⟨⟨_, bs, rfl, ?_, .inl ⟨rfl, HOK.out (by trivial)⟩⟩, HBW.out _ HK6.out⟩
      exact Kd.R_lower (Kd.R_mono (Kd.R_step (Kd.R_mono (Kd.R_bound HO.out) (ok' := fun k => w1.heap.size ≤ k) (fun k hk => hk.2.1)) (fun k hk hl => HK6.out.block k hl (fun e => by have e : k = g := e; omega))) (fun _ _ => trivial)) hz
    · have hcn : (E != 0) = true := bne_iff_ne.mpr hE0
      have hcb : (E == 0) = false := beq_eq_false_iff_ne.mpr hE0
      have HE0 := aM hE0
      clear hE0
      go_wp2_with (go_at_call 50; refine (rd_end g b sx _ HD.out).mono ?_; rintro _ w6 ⟨rfl, hk, -⟩; rw [HE.out]; have HK6 := aM hk; clear hk)
      go_returns
      rw [HXX.out]
      exact ⟨⟨_, [], rfl, Kd.R_nil _ _ _ _ _, .inr ⟨HE0.out, rfl⟩⟩, HBW.out _ HK6.out⟩
end Go.Proofs.Ytnckonglodmfeaa.Ik
namespace Go.Proofs.Ytnckonglodmfeaa.Ik
open Ls Go.RowKit Go.Proofs.YtnckonglodmfeaaW.PrintWords Go.Proofs.YtnckonglodmfeaaW.PrintLast Go.Proofs.YtnckonglodmfeaaW.PrintMore B R S Is Js
structure PbS (w0 W : World) (g b gp : Nat) (s : St) (F : Array Value) : Prop where
 rd : Rq W g b s
 bx : W.heap[gp]? = some (.cells F 61 (0, 0))
 kp : Keep (fun i => i = g ∨ i = gp) w0 W
 hg : g ≠ gp
 hb : b ≠ gp
section
variable {w0 W W' : World} {g b gp : Nat} {s s' : St} {F : Array Value}
theorem PbS.step (h : PbS w0 W g b gp s F) (hk : Keep (· = g) W W') (hr : Rq W' g b s') : PbS w0 W' g b gp s' F :=
 ⟨hr, (hk.block gp (blk_lt h.bx) (fun e => h.hg (Eq.symm e))).trans h.bx, h.kp.trans (hk.mono (fun i _ e => .inl e)), h.hg, h.hb⟩
theorem PbS.set (h : PbS w0 W g b gp s F) (j : Nat) (x : Value) : PbS w0 (W.setCell ⟨gp, j, none⟩ x) g b gp s (F.setIfInBounds j x) :=
 ⟨h.rd.setb h.hg h.hb j x, heap_setCell_same W gp j F _ _ h.bx, h.kp.trans (((Keep.refl (fun i => i = gp) _).setCell ⟨gp, j, none⟩ x (fun _ => rfl)).mono (fun i _ e => .inr e)), h.hg, h.hb⟩
theorem PbS.cells {x0 x1 : Value} (h : PbS w0 W g b gp s F) (hF : F = #[x0, x1]) : W.cell? ⟨gp, 0, none⟩ = some x0 ∧ W.cell? ⟨gp, 1, none⟩ = some x1 ∧ ∀ j, W.frozen? ⟨gp, j, none⟩ = false := by
 subst hF
 exact ⟨cell_at h.bx 0 _ rfl, cell_at h.bx 1 _ rfl, fun j => blk_frozen h.bx j⟩
end
end Go.Proofs.Ytnckonglodmfeaa.Ik
namespace Go.Proofs.Ytnckonglodmfeaa.Ik
open Go.RowKit Go.Proofs.YtnckonglodmfeaaW.PrintWords Go.Proofs.YtnckonglodmfeaaW.PrintLast Go.Proofs.YtnckonglodmfeaaW.PrintMore B R S Is
theorem run_equalPr (d : Nat) (W : World) (p q p' q' : Int) : (Op.equalIn (d + 2) 61 (.agg #[.int .i64 p, .int .i64 q]) (.agg #[.int .i64 p', .int .i64 q'])).run Try.prog W = .ok (p == p' && (q == q')) W := by
 refine eqA_of Try.underlying61 (by kernel_rfl) ?_
 refine eqf_cons (by rfl) (by go_simp; rfl) (by go_simp; rfl) (by go_simp) ?_
 exact eqf_last (by rfl) (by go_simp; rfl) (by go_simp; rfl) (by go_simp)
theorem run_neqPr (W : World) (p q p' q' : Int) : (binOp .neq 61 (.agg #[.int .i64 p, .int .i64 q]) (.agg #[.int .i64 p', .int .i64 q'])).run Try.prog W = .ok (.bool (!(p == p' && (q == q')))) W := by
 simp only [binOp]
 simp [Op.equal, Op.maxDepth, run_equalPr 9998 W]
set_option maxHeartbeats 4000000 in
set_option maxRecDepth 100000 in
theorem same_codes (p v sl : Int) (l : List Blk) (n : Nat) (hn : l.length = n) (A B : Option Addr) (c e : Nat) (w : World) (hA : kBlk.C w A n l) (hB : kBlk.C w B n l) :
 Calls Try.prog 66 #[.agg #[.int .i64 p, .int .i64 v, .int .i64 sl, .slice A n c], .agg #[.int .i64 p, .int .i64 v, .int .i64 sl, .slice B n e]] w fun r w' => r = .returned (.bool true) ∧ Below w.heap.size w w' := by
 have mixed : Try.prog.follows .mixedOrders = true := by kernel_rfl
 have HA := aM hA
 have HB := aM hB
 have HN := aM hn
 clear hA hB hn
 have HWF := aM (show Below w.heap.size w ((w.alloc (.cells #[.int .i64 p, .int .i64 v, .int .i64 sl, .slice A n c] 54)).alloc (.cells #[.int .i64 p, .int .i64 v, .int .i64 sl, .slice B n e] 54)) from ((Below.refl _ _).alloc (Nat.le_refl _) _).alloc (by rw [World.size_alloc]; omega) _)
 go_enter Try.func66, Try.ntmps66
 go_wp2_with (go_at_call 84; refine (same_blocks l n HN.out A B c e _ (Kd.C_below HA.out HWF.out) (Kd.C_below HB.out HWF.out)).mono ?_; rintro _ w7 ⟨rfl, hb⟩; have HW7 := aM (HWF.out.trans (hb.mono HWF.out.size)); clear hb)
 go_ret
 exact ⟨rfl, HW7.out⟩
set_option maxHeartbeats 4000000 in
set_option maxRecDepth 100000 in
theorem same_pairs (l : List Pr) (n : Nat) (hn : l.length = n) (A B : Option Addr) (c e : Nat) (w : World) (hA : kP.C w A n l) (hB : kP.C w B n l) :
 Calls Try.prog 100 #[.slice A n c, .slice B n e] w fun r w' => r = .returned (.bool true) ∧ Below w.heap.size w w' := by
 have mixed : Try.prog.follows .mixedOrders = true := by kernel_rfl
 subst hn
 have HA := aM hA
 have HB := aM hB
 have hll := hA.2.1
 clear hA hB
 go_enter Try.func100, Try.ntmps100
 go_wp2_with fail
 go_loopw [5] (fun vi wr => ∃ j : Nat, j ≤ l.length ∧ vi = .int .i64 j ∧ Aside0 (Below w.heap.size w wr)) (fun vi _ => l.length - (intOf vi).toNat)
 case atStart => exact ⟨0, by omega, rfl, ⟨Below.refl _ _⟩⟩
 case round =>
  obtain ⟨wo, hwo⟩ : ∃ wo, wo = wr := ⟨_, rfl⟩
  subst hwo
  obtain ⟨j, hj, rfl, HZ⟩ := hrel
  by_cases hjl : j < l.length
  · obtain ⟨⟨p, q⟩, hx⟩ : ∃ x, l[j]? = some x := ⟨_, List.getElem?_eq_getElem hjl⟩
    obtain ⟨ad, rfl, b0, b1⟩ := pair_cells HA.out hx
    obtain ⟨ad', rfl, c0, c1⟩ := pair_cells HB.out hx
    have HBX := aM (show ∀ W', Below w.heap.size w W' → (W'.cell? (ad.add (j * 2)) = some (.int .i64 p) ∧ W'.cell? ⟨(ad.add (j * 2)).block, (ad.add (j * 2)).off + 1, none⟩ = some (.int .i64 q)) ∧ W'.cell? (ad'.add (j * 2)) = some (.int .i64 p) ∧ W'.cell? ⟨(ad'.add (j * 2)).block, (ad'.add (j * 2)).off + 1, none⟩ = some (.int .i64 q) from fun W' h =>
     ⟨⟨pw_cell_below h b0, pw_cell_below h b1⟩, pw_cell_below h c0, pw_cell_below h c1⟩)
    have HBK := aM (show ∀ W', Keep (fun _ => False) wo.drew W' → Below w.heap.size w W' from fun W' h => Keep.below_then HZ.out.drew h HZ.out.size (fun _ _ => id))
    have hne := fun W => run_neqPr W p q p q
    have hbb : (!(p == p && (q == q))) = false := by simp
    simp only [hbb] at hne
    clear hx b0 b1 c0 c1 hbb
    go_wp2_with fail
    refine rk_start (fun _ => False) (by kernel_rfl) (n := 9) (l := (bl 9 0)) (by kernel_rfl) (by kernel_rfl) ?_
    refine kt 0 (bl 9 1) rfl (fun w' hR => by go_simp; first | done | with_reducible rfl) rfl ?_
    try simp only [Act.put, pB, pC, pD]
    refine kt 1 (bl 9 3) rfl (fun w' hR => by go_simp; first | done | with_reducible rfl) rfl ?_
    try simp only [Act.put, pB, pC, pD]
    refine kt 2 (bl 9 7) rfl (fun w' hR => by go_simp; first | done | with_reducible rfl) rfl ?_
    try simp only [Act.put, pB, pC, pD]
    refine kt 3 (bl 9 15) rfl (fun w' hR => by obtain ⟨⟨x0, x1⟩, y0, y1⟩ := HBX.out w' (HBK.out w' hR); go_simp; first | done | with_reducible rfl) rfl ?_
    try simp only [Act.put, pB, pC, pD]
    refine kt 4 (bl 9 31) rfl (fun w' hR => by go_simp; first | done | with_reducible rfl) rfl ?_
    try simp only [Act.put, pB, pC, pD]
    refine kt 5 (bl 9 63) rfl (fun w' hR => by go_simp; first | done | with_reducible rfl) rfl ?_
    try simp only [Act.put, pB, pC, pD]
    refine kt 6 (bl 9 127) rfl (fun w' hR => by go_simp; first | done | with_reducible rfl) rfl ?_
    try simp only [Act.put, pB, pC, pD]
    refine kt 7 (bl 9 255) rfl (fun w' hR => by obtain ⟨⟨x0, x1⟩, y0, y1⟩ := HBX.out w' (HBK.out w' hR); go_simp; first | done | with_reducible rfl) rfl ?_
    try simp only [Act.put, pB, pC, pD]
    refine kt 8 (bl 9 511) rfl (fun w' hR => by have x0 := hne w'; go_simp; first | done | with_reducible rfl) rfl ?_
    try simp only [Act.put, pB, pC, pD]
    refine rk_done (by kernel_rfl) ?_
    clear HBK hne
    go_wp2
    go_roundw
    case rel => exact ⟨j + 1, by omega, by go_num, ⟨HZ.out.drew⟩⟩
    case measure => simp [intOf]; omega
  · obtain rfl : j = l.length := by omega
    go_wp2
    go_ret
    exact ⟨rfl, HZ.out⟩
set_option maxHeartbeats 4000000 in
set_option maxRecDepth 100000 in
theorem same_certs (l : Crt) (n : Nat) (hn : l.length = n) (A B : Option Addr) (c e : Nat) (w : World) (hA : kPs.C w A n l) (hB : kPs.C w B n l) :
 Calls Try.prog 67 #[.slice A n c, .slice B n e] w fun r w' => r = .returned (.bool true) ∧ Below w.heap.size w w' := by
 have mixed : Try.prog.follows .mixedOrders = true := by kernel_rfl
 subst hn
 have HA := aM hA
 have HB := aM hB
 have hll := hA.2.1
 clear hA hB
 go_enter Try.func67, Try.ntmps67
 go_wp2_with fail
 go_loopw [5] (fun vi wr => ∃ j : Nat, j ≤ l.length ∧ vi = .int .i64 j ∧ Aside0 (Below w.heap.size w wr)) (fun vi _ => l.length - (intOf vi).toNat)
 case atStart => exact ⟨0, by omega, rfl, ⟨Below.refl _ _⟩⟩
 case round =>
  obtain ⟨wo, hwo⟩ : ∃ wo, wo = wr := ⟨_, rfl⟩
  subst hwo
  obtain ⟨j, hj, rfl, HZ⟩ := hrel
  by_cases hjl : j < l.length
  · obtain ⟨ps, hx⟩ : ∃ x, l[j]? = some x := ⟨_, List.getElem?_eq_getElem hjl⟩
    obtain ⟨ad, A1, n1, rfl, b0, hn1, hC1⟩ := crt_cells HA.out hx
    obtain ⟨ad', A2, n2, rfl, c0, hn2, hC2⟩ := crt_cells HB.out hx
    have HC1 := aM hC1
    have HC2 := aM hC2
    have HBX := aM (show ∀ W', Below w.heap.size w W' → W'.cell? (ad.add j) = some (.slice A1 ps.length n1) ∧ W'.cell? (ad'.add j) = some (.slice A2 ps.length n2) from fun W' h =>
     ⟨pw_cell_below h b0, pw_cell_below h c0⟩)
    have HBK := aM (show ∀ W', Keep (fun _ => False) wo.drew W' → Below w.heap.size w W' from fun W' h => Keep.below_then HZ.out.drew h HZ.out.size (fun _ _ => id))
    clear hx b0 c0 hC1 hC2
    go_wp2_with fail
    refine rk_start (fun _ => False) (by kernel_rfl) (n := 10) (l := (bl 10 0)) (by kernel_rfl) (by kernel_rfl) ?_
    refine kt 0 (bl 10 1) rfl (fun w' hR => by go_simp; first | done | with_reducible rfl) rfl ?_
    try simp only [Act.put, pB, pC, pD]
    refine kt 1 (bl 10 3) rfl (fun w' hR => by go_simp; first | done | with_reducible rfl) rfl ?_
    try simp only [Act.put, pB, pC, pD]
    refine kt 2 (bl 10 7) rfl (fun w' hR => by go_simp; first | done | with_reducible rfl) rfl ?_
    try simp only [Act.put, pB, pC, pD]
    refine kt 3 (bl 10 15) rfl (fun w' hR => by obtain ⟨x0, y0⟩ := HBX.out w' (HBK.out w' hR); go_simp; first | done | with_reducible rfl) rfl ?_
    try simp only [Act.put, pB, pC, pD]
    refine kt 4 (bl 10 31) rfl (fun w' hR => by go_simp; first | done | with_reducible rfl) rfl ?_
    try simp only [Act.put, pB, pC, pD]
    refine kt 5 (bl 10 63) rfl (fun w' hR => by go_simp; first | done | with_reducible rfl) rfl ?_
    try simp only [Act.put, pB, pC, pD]
    refine kt 6 (bl 10 127) rfl (fun w' hR => by go_simp; first | done | with_reducible rfl) rfl ?_
    try simp only [Act.put, pB, pC, pD]
    refine kt 7 (bl 10 255) rfl (fun w' hR => by obtain ⟨x0, y0⟩ := HBX.out w' (HBK.out w' hR); go_simp; first | done | with_reducible rfl) rfl ?_
    try simp only [Act.put, pB, pC, pD]
    refine rk_step (fuel := 1) 8 rfl (by kernel_rfl) (listed' := (bl 10 511)) (by kernel_rfl) (by kernel_rfl) (fun K' hK => ?_)
    go_wp2_with (go_at_call 100; refine (same_pairs ps ps.length rfl A1 A2 n1 n2 _ (Kd.C_below HC1.out HZ.out.drew) (Kd.C_below HC2.out HZ.out.drew)).mono ?_; rintro _ w7 ⟨rfl, hb⟩; have HB7 := aM hb; clear hb)
    refine hK.out _ _ (Keep.of_below HB7.out) ?_
    clear hK K'
    try simp only [Act.put, pB, pC, pD]
    refine kt 9 (bl 10 1023) rfl (fun w' hR => by go_simp; first | done | with_reducible rfl) rfl ?_
    try simp only [Act.put, pB, pC, pD]
    refine rk_done (by kernel_rfl) ?_
    clear HBK
    go_wp2
    go_roundw
    case rel => exact ⟨j + 1, by omega, by go_num, ⟨HZ.out.drew.trans (HB7.out.mono HZ.out.size)⟩⟩
    case measure => simp [intOf]; omega
  · obtain rfl : j = l.length := by omega
    go_wp2
    go_ret
    exact ⟨rfl, HZ.out⟩
end Go.Proofs.Ytnckonglodmfeaa.Ik
namespace Go.Proofs.Ytnckonglodmfeaa.Ik
open Ls Go.RowKit Go.Proofs.YtnckonglodmfeaaW.PrintWords Go.Proofs.YtnckonglodmfeaaW.PrintLast Go.Proofs.YtnckonglodmfeaaW.PrintMore B R S Is Js
end Go.Proofs.Ytnckonglodmfeaa.Ik
namespace Go.Proofs.Ytnckonglodmfeaa.Ik
open Ls Lc Go.RowKit Go.Proofs.YtnckonglodmfeaaW.PrintWords Go.Proofs.YtnckonglodmfeaaW.PrintLast Go.Proofs.YtnckonglodmfeaaW.PrintMore B R S Is Js Gs Gc
abbrev Tel := Int × Int × Cod × Crt
def tellB (t : Tel) : List Int := fieldL t.1 ++ (putl t.2.1.toNat ++ (fieldL (codeL t.2.2.1).length ++ (codeL t.2.2.1 ++ certL t.2.2.2)))
def tellErr (t : Tel) : Int := if codeErr t.2.2.1 ≠ 0 then 30 else if certErr t.2.2.2 ≠ 0 then certErr t.2.2.2 else if t.1 < 0 ∨ 16 ≤ t.1 then 2 else if 65536 < (tellB t).length then 4 else 0
def tellL (t : Tel) : List Int := layL 3 (tellB t)
theorem tell_e1 {j n : Int} {c : Cod} {l : Crt} (h : codeErr c ≠ 0) : tellErr (j, n, c, l) = 30 := if_pos h
theorem tell_e2 {j n : Int} {c : Cod} {l : Crt} (h : codeErr c = 0) (h2 : certErr l ≠ 0) : tellErr (j, n, c, l) = certErr l := by simp [tellErr, h, h2]
theorem tell_e3 {j n : Int} {c : Cod} {l : Crt} (h : codeErr c = 0) (h2 : certErr l = 0) (h3 : j < 0 ∨ 16 ≤ j) : tellErr (j, n, c, l) = 2 := by simp [tellErr, h, h2, h3]
theorem tell_e4 {j n : Int} {c : Cod} {l : Crt} (h : codeErr c = 0) (h2 : certErr l = 0) (h3 : ¬ (j < 0 ∨ 16 ≤ j)) (h4 : 65536 < (tellB (j, n, c, l)).length) : tellErr (j, n, c, l) = 4 := by simp [tellErr, h, h2, h3, h4]
theorem tell_e0 {j n : Int} {c : Cod} {l : Crt} (h : codeErr c = 0) (h2 : certErr l = 0) (h3 : ¬ (j < 0 ∨ 16 ≤ j)) (h4 : ¬ 65536 < (tellB (j, n, c, l)).length) : tellErr (j, n, c, l) = 0 := by simp [tellErr, h, h2, h3, h4]
theorem wblk_len4 (b : Blk) (h : OkB b) : (blkL b).length ≤ 40050 := by
 have h1 := insl_len b.1 h.2.2
 have h2 := end_len b.2
 have h3 := field_len b.1.length
 have h4 := h.1
 simp only [blkL, List.length_append]
 omega
theorem code_len (p v sl : Int) (l : List Blk) (h0 : codeErr (p, v, sl, l) = 0) (hR : ∀ b ∈ l, BlkR b) : (codeL (p, v, sl, l)).length ≤ 700000 := by
 obtain ⟨h16, hok⟩ := code_ok h0 hR
 have h1 := flat_len blkL 40050 l (fun b hb => wblk_len4 b (hok b hb))
 have h2 := field_len l.length
 have h3 := fields_len [p, v, sl]
 simp only [codeL, blksL, List.length_append, List.length_cons, List.length_nil] at *
 omega
theorem cert_len (l : Crt) (h0 : certErr l = 0) (hl : ∀ ps ∈ l, ps.length ≤ 1000) : (certL l).length ≤ 400000 := by
 have h16 : l.length ≤ 16 := by
  unfold certErr at h0
  split at h0
  · cases h0
  · omega
 have h1 := flat_len prsL 20010 l (fun ps hps => by
  have h1 := flat_len prL 20 ps (fun p _ => pr_len p)
  have h2 := field_len ps.length
  have h3 := hl ps hps
  simp only [prsL, List.length_append]
  omega)
 have h2 := field_len l.length
 simp only [certL, List.length_append]
 omega
theorem code_byL (c : Cod) : By (codeL c) := By.append (fields_byL _) (blks_byL _)
theorem cert_byL (l : Crt) : By (certL l) := By.append (field_by' _) (flat_by _ _ (fun ps => By.append (field_by' _) (flat_by _ _ (fun p => fields_byL _))))
theorem tell_byB (t : Tel) : By (tellB t) := By.append (field_by' _) (By.append (putl_by _) (By.append (field_by' _) (By.append (code_byL _) (cert_byL _))))
def TellC (W : World) (g : Nat) (j n p v sl : Int) (s s' : Value) : Prop := W.cell? ⟨g, 0, none⟩ = some (.int .i64 j) ∧ W.cell? ⟨g, 1, none⟩ = some (.int .u64 n) ∧ W.cell? ⟨g, 2, none⟩ = some (.int .i64 p) ∧ W.cell? ⟨g, 3, none⟩ = some (.int .i64 v) ∧ W.cell? ⟨g, 4, none⟩ = some (.int .i64 sl) ∧ W.cell? ⟨g, 5, none⟩ = some s ∧ W.cell? ⟨g, 6, none⟩ = some s'
theorem tell_box {w W' : World} {j n p v sl : Int} {s s' : Value} {e : Nat} (h : Below (w.heap.size + 1) (w.alloc (.cells #[.int .i64 j, .int .u64 n, .int .i64 p, .int .i64 v, .int .i64 sl, s, s'] e)) W') : TellC W' w.heap.size j n p v sl s s' := by
 have g := below_cells (h.mono (by rw [World.size_alloc]; exact Nat.le_refl _))
 exact ⟨cell_at g 0 _ rfl, cell_at g 1 _ rfl, cell_at g 2 _ rfl, cell_at g 3 _ rfl, cell_at g 4 _ rfl, cell_at g 5 _ rfl, cell_at g 6 _ rfl⟩
end Go.Proofs.Ytnckonglodmfeaa.Ik
namespace Go.Proofs.Ytnckonglodmfeaa.Ik
open Ls Lc Go.RowKit Go.Proofs.YtnckonglodmfeaaW.PrintWords Go.Proofs.YtnckonglodmfeaaW.PrintLast Go.Proofs.YtnckonglodmfeaaW.PrintMore B R S Is Js Gs Gc
def zeroTell : Tel := (0, 0, (0, 0, 0, []), [])
def sHeadT (s : St) : (Int × Int × List Int) × St :=
 match sBelow 16 s with
 | (j, s1) => match num s1.1 s1.2 with
  | (n, s2) => match sBelow 65537 s2 with
   | (q, s3) => match Ls.takes q s3.1 s3.2 with
    | (cb, s4) => ((j, n, cb), s4)
def readTell (b : List Int) : Tel × Int :=
 if (openL 3 b).2 ≠ 0 then (zeroTell, (openL 3 b).2)
 else if (sHeadT ((openL 3 b).1, 0)).2.2 ≠ 0 then (zeroTell, (sHeadT ((openL 3 b).1, 0)).2.2)
 else if (sCod (sHeadT ((openL 3 b).1, 0)).1.2.2).2 ≠ 0 then (zeroTell, (sCod (sHeadT ((openL 3 b).1, 0)).1.2.2).2)
 else if (sCert (sHeadT ((openL 3 b).1, 0)).2.1).2 ≠ 0 then (zeroTell, (sCert (sHeadT ((openL 3 b).1, 0)).2.1).2)
 else (((sHeadT ((openL 3 b).1, 0)).1.1, (sHeadT ((openL 3 b).1, 0)).1.2.1, (sCod (sHeadT ((openL 3 b).1, 0)).1.2.2).1, (sCert (sHeadT ((openL 3 b).1, 0)).2.1).1), 0)
theorem readTell_eq {b body : List Int} {oe : Int} (ho : openL 3 b = (body, oe)) {j n q : Int} {s1 s2 s3 s4 : St} (h1 : sBelow 16 (body, 0) = (j, s1)) (h2 : num s1.1 s1.2 = (n, s2)) (h3 : sBelow 65537 s2 = (q, s3)) {cb : List Int} (h4 : Ls.takes q s3.1 s3.2 = (cb, s4)) {cx : Cod} {ce : Int} (hc : sCod cb = (cx, ce)) {lx : Crt} {le : Int} (hl : sCert s4.1 = (lx, le)) :
 readTell b = if oe ≠ 0 then (zeroTell, oe) else if s4.2 ≠ 0 then (zeroTell, s4.2) else if ce ≠ 0 then (zeroTell, ce) else if le ≠ 0 then (zeroTell, le) else ((j, n, cx, lx), 0) := by
 have hh : sHeadT (body, 0) = ((j, n, cb), s4) := by simp only [sHeadT, h1, h2, h3, h4]
 simp only [readTell, ho, hh, hc, hl]
def TellRet (w' : World) (base : Nat) (x : Tel × Int) (e : Ending) : Prop :=
 ∃ j n p v sl vb bs vc ct, e = .returned (.tuple #[.agg #[.int .i64 j, .int .u64 n, .int .i64 p, .int .i64 v, .int .i64 sl, vb, vc], .int .i64 x.2]) ∧ kBlk.R 84 w' base (fun _ => True) vb bs ∧ kPs.R 58 w' base (fun _ => True) vc ct ∧ x.1 = (j, n, (p, v, sl, bs), ct)
theorem takesS_by {q : Int} {s : St} (h : By s.1) : By (Ls.takes q s.1 s.2).1 ∧ By (Ls.takes q s.1 s.2).2.1 := by
 unfold Ls.takes
 repeat' split
 · exact ⟨fun x hx => (by cases hx), h⟩
 · exact ⟨fun x hx => h x (List.mem_of_mem_take hx), fun x hx => h x (List.mem_of_mem_drop hx)⟩
 · exact ⟨fun x hx => (by cases hx), h⟩
theorem takesS_len (q : Int) (s : St) : (Ls.takes q s.1 s.2).1.length ≤ s.1.length ∧ (Ls.takes q s.1 s.2).2.1.length ≤ s.1.length := by
 unfold Ls.takes
 repeat' split
 all_goals simp
 all_goals omega
theorem takes_all (s : St) : ∃ lb s5, Ls.takes (s.1.length : Int) s.1 s.2 = (lb, s5) ∧ ended s5.1 s5.2 = s.2 ∧ (s.2 = 0 → lb = s.1) := by
 by_cases h : s.2 = 0
 · refine ⟨s.1, ([], 0), ?_, by rw [h]; rfl, fun _ => rfl⟩
   unfold Ls.takes
   rw [if_pos h, if_neg (by omega), Int.toNat_natCast, List.take_length, List.drop_length]
 · refine ⟨[], s, if_neg h, ?_, fun h0 => absurd h0 h⟩
   unfold ended failed
   rw [if_neg h]
   split <;> rfl
abbrev TT (w0 W : World) (gb : Nat) (F : Array Value) : Prop := Tg 57 #[.int .i64 0, .int .u64 0, .int .i64 0, .int .i64 0, .int .i64 0, .slice none 0 0, .slice none 0 0] w0 W gb F
theorem cells7 {W : World} {g e : Nat} {x0 x1 x2 x3 x4 x5 x6 : Value} (h : W.heap[g]? = some (.cells #[x0, x1, x2, x3, x4, x5, x6] e (0, 0))) : (W.cell? ⟨g, 0, none⟩ = some x0 ∧ W.cell? ⟨g, 1, none⟩ = some x1 ∧ W.cell? ⟨g, 2, none⟩ = some x2 ∧ W.cell? ⟨g, 3, none⟩ = some x3 ∧ W.cell? ⟨g, 4, none⟩ = some x4 ∧ W.cell? ⟨g, 5, none⟩ = some x5 ∧ W.cell? ⟨g, 6, none⟩ = some x6) ∧ ∀ j, W.frozen? ⟨g, j, none⟩ = false :=
 ⟨⟨cell_at h 0 _ rfl, cell_at h 1 _ rfl, cell_at h 2 _ rfl, cell_at h 3 _ rfl, cell_at h 4 _ rfl, cell_at h 5 _ rfl, cell_at h 6 _ rfl⟩, fun j => blk_frozen h j⟩
theorem putT {W : World} {g e : Nat} {u0 u1 u2 u3 u4 u5 u6 : Value} (h : W.heap[g]? = some (.cells #[u0, u1, u2, u3, u4, u5, u6] e (0, 0))) (x0 x1 x2 x3 x4 x5 x6 : Value) :
 (((((((W.setCell ⟨g, 0, none⟩ x0).setCell ⟨g, 1, none⟩ x1).setCell ⟨g, 2, none⟩ x2).setCell ⟨g, 3, none⟩ x3).setCell ⟨g, 4, none⟩ x4).setCell ⟨g, 5, none⟩ x5).setCell ⟨g, 6, none⟩ x6).heap[g]? = some (.cells #[x0, x1, x2, x3, x4, x5, x6] e (0, 0)) := by
 have a0 := blk_put h 0 x0 (show _ = #[x0, u1, u2, u3, u4, u5, u6] from rfl)
 have a1 := blk_put a0 1 x1 (show _ = #[x0, x1, u2, u3, u4, u5, u6] from rfl)
 have a2 := blk_put a1 2 x2 (show _ = #[x0, x1, x2, u3, u4, u5, u6] from rfl)
 have a3 := blk_put a2 3 x3 (show _ = #[x0, x1, x2, x3, u4, u5, u6] from rfl)
 have a4 := blk_put a3 4 x4 (show _ = #[x0, x1, x2, x3, x4, u5, u6] from rfl)
 have a5 := blk_put a4 5 x5 (show _ = #[x0, x1, x2, x3, x4, x5, u6] from rfl)
 exact blk_put a5 6 x6 rfl
theorem putT_far {W : World} {g : Nat} (x0 x1 x2 x3 x4 x5 x6 : Value) : Keep (fun i => i = g) W (((((((W.setCell ⟨g, 0, none⟩ x0).setCell ⟨g, 1, none⟩ x1).setCell ⟨g, 2, none⟩ x2).setCell ⟨g, 3, none⟩ x3).setCell ⟨g, 4, none⟩ x4).setCell ⟨g, 5, none⟩ x5).setCell ⟨g, 6, none⟩ x6) :=
 (put6_far x0 x1 x2 x3 x4 x5).setCell ⟨g, 6, none⟩ x6 (fun _ => rfl)
theorem TT.cells {w0 W : World} {gb : Nat} {F : Array Value} {x0 x1 x2 x3 x4 x5 x6 : Value} (h : TT w0 W gb F) (hF : F = #[x0, x1, x2, x3, x4, x5, x6]) :
 ((W.cell? ⟨gb, 0, none⟩ = some x0 ∧ W.cell? ⟨gb, 1, none⟩ = some x1 ∧ W.cell? ⟨gb, 2, none⟩ = some x2 ∧ W.cell? ⟨gb, 3, none⟩ = some x3 ∧ W.cell? ⟨gb, 4, none⟩ = some x4 ∧ W.cell? ⟨gb, 5, none⟩ = some x5 ∧ W.cell? ⟨gb, 6, none⟩ = some x6) ∧ ∀ j, W.frozen? ⟨gb, j, none⟩ = false) ∧
 (W.cell? ⟨w0.heap.size, 0, none⟩ = some (.int .i64 0) ∧ W.cell? ⟨w0.heap.size, 1, none⟩ = some (.int .u64 0) ∧ W.cell? ⟨w0.heap.size, 2, none⟩ = some (.int .i64 0) ∧ W.cell? ⟨w0.heap.size, 3, none⟩ = some (.int .i64 0) ∧ W.cell? ⟨w0.heap.size, 4, none⟩ = some (.int .i64 0) ∧ W.cell? ⟨w0.heap.size, 5, none⟩ = some (.slice none 0 0) ∧ W.cell? ⟨w0.heap.size, 6, none⟩ = some (.slice none 0 0)) ∧ ∀ j, W.frozen? ⟨w0.heap.size, j, none⟩ = false := by
 subst hF
 exact ⟨cells7 h.bx, cells7 h.res⟩
set_option maxHeartbeats 8000000 in
set_option maxRecDepth 100000 in
theorem taketell_calls (A : Option Addr) (c : Nat) (b : List Int) (n0 : Nat) (hn : b.length = n0) (w : World) (hC : kU8.C w A n0 b) (hc : n0 ≤ c) (hby : By b) (hl : n0 ≤ 1000000) :
 Calls Try.prog 24 #[.slice A n0 c] w fun e w' => TellRet w' w.heap.size (readTell b) e ∧ Below w.heap.size w w' := by
 have mixed : Try.prog.follows .mixedOrders = true := by kernel_rfl
 have HC := aM hC
 have HBY := aM hby
 have HN := aM hn
 obtain ⟨body, oe, ho⟩ : ∃ body oe, openL 3 b = (body, oe) := ⟨_, _, rfl⟩
 obtain ⟨j, s1, h1⟩ : ∃ j s1, sBelow 16 (body, 0) = (j, s1) := ⟨_, _, rfl⟩
 obtain ⟨n, s2, h2⟩ : ∃ n s2, num s1.1 s1.2 = (n, s2) := ⟨_, _, rfl⟩
 obtain ⟨q, s3, h3⟩ : ∃ q s3, sBelow 65537 s2 = (q, s3) := ⟨_, _, rfl⟩
 obtain ⟨cb, s4, h4⟩ : ∃ cb s4, Ls.takes q s3.1 s3.2 = (cb, s4) := ⟨_, _, rfl⟩
 obtain ⟨cx, ce, hcx⟩ : ∃ cx ce, sCod cb = (cx, ce) := ⟨_, _, rfl⟩
 obtain ⟨lx, le, hlx⟩ : ∃ lx le, sCert s4.1 = (lx, le) := ⟨_, _, rfl⟩
 rw [readTell_eq ho h1 h2 h3 h4 hcx hlx]
 obtain ⟨lb, s5, h5, h6, h7⟩ := takes_all s4
 have HO := aM ho
 have H1 := aM h1
 have H2 := aM h2
 have H3 := aM h3
 have H4 := aM h4
 have H5 := aM h5
 have H6 := aM h6
 have H7 := aM h7
 have HCX := aM hcx
 have HLX := aM hlx
 have HSZ := aM (World.size_alloc w (.cells #[.int .i64 0, .int .u64 0, .int .i64 0, .int .i64 0, .int .i64 0, .slice none 0 0, .slice none 0 0] 57))
 have HA := aM (show Below w.heap.size w (w.alloc (.cells #[.int .i64 0, .int .u64 0, .int .i64 0, .int .i64 0, .int .i64 0, .slice none 0 0, .slice none 0 0] 57)) from (Below.refl _ _).alloc (Nat.le_refl _) _)
 have HRES := aM (show ∀ W', Below (w.heap.size + 1) (w.alloc (.cells #[.int .i64 0, .int .u64 0, .int .i64 0, .int .i64 0, .int .i64 0, .slice none 0 0, .slice none 0 0] 57)) W' → W'.heap[w.heap.size]? = some (.cells #[.int .i64 0, .int .u64 0, .int .i64 0, .int .i64 0, .int .i64 0, .slice none 0 0, .slice none 0 0] 57 (0, 0)) from fun W' h => below_cells (h.mono (by rw [World.size_alloc]; exact Nat.le_refl _)))
 clear hC hby hn ho h1 h2 h3 h4 h5 h6 h7 hcx hlx
 by_cases hoe : oe = 0
 case neg =>
  rw [if_pos hoe]
  have hb1 : (oe == 0) = false := beq_eq_false_iff_ne.mpr hoe
  have hb2 : (oe != 0) = true := bne_iff_ne.mpr hoe
  have HOE := aM hoe
  clear hoe
  go_enter Try.func24, Try.ntmps24
  go_upto_region 3 with (go_at_call 45; refine (wopen_calls 3 A c b n0 HN.out _ (Kd.C_below HC.out HA.out) hc HBY.out hl).mono ?_; rintro _ w1 ⟨hr, hb⟩; rw [HO.out] at hr; have HB1 := aM (show Below (w.heap.size + 1) (w.alloc (.cells #[.int .i64 0, .int .u64 0, .int .i64 0, .int .i64 0, .int .i64 0, .slice none 0 0, .slice none 0 0] 57)) w1 from hb.mono (by rw [HSZ.out]; exact Nat.le_refl _)); clear hb; rcases hr with ⟨-, rfl⟩ | ⟨h0, -⟩; rotate_left; (exact absurd h0 HOE.out); have hres := HRES.out w1 HB1.out)
  obtain ⟨⟨x0, x1, x2, x3, x4, x5, x6⟩, xz⟩ := cells7 hres
  have HRS := aM hres
  clear hres
  go_wp2
  (have rr := HRS.out; have p0 := fun x0 x1 x2 x3 x4 x5 x6 => cell_at (putT rr x0 x1 x2 x3 x4 x5 x6) 0 _ rfl; have p1 := fun x0 x1 x2 x3 x4 x5 x6 => cell_at (putT rr x0 x1 x2 x3 x4 x5 x6) 1 _ rfl; have p2 := fun x0 x1 x2 x3 x4 x5 x6 => cell_at (putT rr x0 x1 x2 x3 x4 x5 x6) 2 _ rfl; have p3 := fun x0 x1 x2 x3 x4 x5 x6 => cell_at (putT rr x0 x1 x2 x3 x4 x5 x6) 3 _ rfl; have p4 := fun x0 x1 x2 x3 x4 x5 x6 => cell_at (putT rr x0 x1 x2 x3 x4 x5 x6) 4 _ rfl; have p5 := fun x0 x1 x2 x3 x4 x5 x6 => cell_at (putT rr x0 x1 x2 x3 x4 x5 x6) 5 _ rfl; have p6 := fun x0 x1 x2 x3 x4 x5 x6 => cell_at (putT rr x0 x1 x2 x3 x4 x5 x6) 6 _ rfl; (try simp only [Exit.inBlock, Exit.then]); refine bodyPost_ret (by simp [results, Try.results24, go_sem, p0, p1, p2, p3, p4, p5, p6]; try rfl) rfl ?_)
  exact ⟨⟨0, 0, 0, 0, 0, _, [], _, [], rfl, Kd.R_nil _ _ _ _ _, Kd.R_nil _ _ _ _ _, rfl⟩, (HA.out.trans (HB1.out.mono (by omega))).trans (keep_below (putT_far _ _ _ _ _ _ _) (HA.out.trans (HB1.out.mono (by omega))).size (fun i e => by omega))⟩
 subst hoe
 rw [if_neg (by simp)]
 have HBB := aM (show By body ∧ body.length ≤ 1000000 from by
  have h1 := takeL_by HBY.out
  have h2 := takeL_len b
  have h3 := HO.out
  unfold openL at h3
  have h4 := HN.out
  repeat' split at h3
  all_goals (injection h3 with e1 e2; subst e1)
  all_goals first | exact ⟨fun x hx => (by cases hx), by simp⟩ | exact ⟨h1, by omega⟩)
 have hby3 : By s3.1 := by
  have a1 := sbelow_by (m := 16) (s := (body, 0)) HBB.out.1
  rw [H1.out] at a1
  have a2 := num_by s1.1 s1.2 a1
  rw [H2.out] at a2
  have a3 := sbelow_by (m := 65537) (s := s2) a2
  rw [H3.out] at a3
  exact a3
 have hl3 : s3.1.length ≤ 1000000 := by
  have a1 := below_len 16 (body, 0)
  rw [H1.out] at a1
  have a2 := num_len s1.1 s1.2
  rw [H2.out] at a2
  have a3 := below_len 65537 s2
  rw [H3.out] at a3
  have := HBB.out.2
  simp only at a1 a2 a3
  omega
 have HCB := aM (show By cb ∧ cb.length ≤ 1000000 from by
  have a := takesS_by (q := q) hby3
  have a' := takesS_len q s3
  rw [H4.out] at a a'
  exact ⟨a.1, Nat.le_trans a'.1 hl3⟩)
 have HS4 := aM (show By s4.1 ∧ s4.1.length ≤ 1000000 from by
  have a := takesS_by (q := q) hby3
  have a' := takesS_len q s3
  rw [H4.out] at a a'
  exact ⟨a.2, Nat.le_trans a'.2 hl3⟩)
 have HL3 := aM hl3
 clear hby3 hl3
 obtain ⟨X, hX⟩ : ∃ X : Tel × Int, (if s4.2 ≠ 0 then (zeroTell, s4.2) else if ce ≠ 0 then (zeroTell, ce) else if le ≠ 0 then (zeroTell, le) else ((j, n, cx, lx), 0)) = X := ⟨_, rfl⟩
 rw [hX]
 have HXX := aM hX
 clear hX
 go_enter Try.func24, Try.ntmps24
 go_upto_region 4 with (go_at_call 45; refine (wopen_calls 3 A c b n0 HN.out _ (Kd.C_below HC.out HA.out) hc HBY.out hl).mono ?_; rintro _ w1 ⟨hr, hb⟩; rw [HO.out] at hr; have HB1 := aM (show Below (w.heap.size + 1) (w.alloc (.cells #[.int .i64 0, .int .u64 0, .int .i64 0, .int .i64 0, .int .i64 0, .slice none 0 0, .slice none 0 0] 57)) w1 from hb.mono (by rw [HSZ.out]; exact Nat.le_refl _)); clear hb; rcases hr with ⟨h0, -⟩ | ⟨-, g, bb, rfl, hR, hBy, hg0, hg1, hb1, -⟩; (exact absurd rfl h0); have HD0 := aM (show Rd w1 g bb (body, 0) from ⟨hR, hBy, hb1⟩); have HG := aM (show w.heap.size + 1 ≤ g from by rw [HSZ.out] at hg0; exact hg0); clear hR hBy hg0 hg1 hb1)
 go_upto_region 5 with (first
  | (go_at_call 46; refine (rd_below g bb (body, 0) 16 _ HD0.out (by decide) (by decide)).mono ?_; rintro _ w2 ⟨rfl, hd, hk, -⟩; rw [H1.out] at hd ⊢; have HD1 := aM hd; have HK1 := aM hk; clear hd hk HD0)
  | (go_at_call 47; refine (rd_num g bb s1 _ HD1.out).mono ?_; rintro _ w3 ⟨rfl, hd, hk, -⟩; rw [H2.out] at hd ⊢; have HD2 := aM hd; have HK2 := aM (HK1.out.trans hk); clear hd hk HD1))
 have hzg := HG.out
 have hb3 : Below (w.heap.size + 1) (w.alloc (.cells #[.int .i64 0, .int .u64 0, .int .i64 0, .int .i64 0, .int .i64 0, .slice none 0 0, .slice none 0 0] 57)) w3 := HB1.out.trans (keep_below HK2.out (by have := HB1.out.size; rw [HSZ.out] at this; exact this) (fun i e => by have e : i = g := e; omega))
 have hz3 : w.heap.size + 1 ≤ w3.heap.size := by have := hb3.size; rw [HSZ.out] at this; exact this
 have HT := aM (show TT w (w3.alloc (.cells #[.int .i64 j, .int .u64 n, .int .i64 0, .int .i64 0, .int .i64 0, .slice none 0 0, .slice none 0 0] 57)) w3.heap.size #[.int .i64 j, .int .u64 n, .int .i64 0, .int .i64 0, .int .i64 0, .slice none 0 0, .slice none 0 0] from
  ⟨HRES.out _ (hb3.alloc hz3 _), heap_alloc_new _ _, (HA.out.trans (hb3.mono (by omega))).alloc (by omega) _, by omega⟩)
 have HD := aM (show Rd (w3.alloc (.cells #[.int .i64 j, .int .u64 n, .int .i64 0, .int .i64 0, .int .i64 0, .slice none 0 0, .slice none 0 0] 57)) g bb s2 from HD2.out.below ((Below.refl _ _).alloc (Nat.le_refl _) _))
 have hgl := HD2.out.1.lt
 obtain ⟨gb, hgb⟩ : ∃ gb, w3.heap.size = gb := ⟨_, rfl⟩
 rw [hgb] at HT hgl ⊢
 obtain ⟨W, hW⟩ : ∃ W, W = w3.alloc (.cells #[.int .i64 j, .int .u64 n, .int .i64 0, .int .i64 0, .int .i64 0, .slice none 0 0, .slice none 0 0] 57) := ⟨_, rfl⟩
 rw [← hW] at HT HD ⊢
 clear hW hgb hz3 hb3 HD2 HK1 HK2 HB1
 obtain ⟨⟨⟨q0, q1, q2, q3, q4, q5, q6⟩, qz⟩, ⟨x0, x1, x2, x3, x4, x5, x6⟩, xz⟩ := TT.cells HT.out rfl
 have hgW := HD.out.1.lt
 have hgbW := blk_lt HT.out.bx
 go_upto_region 8 with (first
  | (go_at_call 46; refine (rd_below g bb s2 65537 _ HD.out (by decide) (by decide)).mono ?_; rintro _ w4 ⟨rfl, hd, hk, hs⟩; rw [H3.out] at hd ⊢; have HD4 := aM hd; have HT4 := aM ((HT.out.keep hk (fun e => by have e : w.heap.size = g := e; omega) (fun e => by have e : gb = g := e; omega) (fun i e => by have e : i = g := e; omega))); have HZ4 := aM hs; clear hd hk hs HD)
  | (go_at_call 48; refine (bytes_calls g bb s3.1 s3.2 q _ HD4.out.1 HD4.out.2.2 (by have := HL3.out; omega)).mono ?_; rintro _ w5 ⟨v5, rfl, hv5, hr5, hk5⟩; rw [H4.out] at hv5 hr5; obtain ⟨A5, c5, rfl, -, -⟩ := Kd.R_reads hv5; have HT5 := aM ((HT4.out.keep hk5 (fun e => by have e : w.heap.size = g := e; omega) (fun e => by have e : gb = g := e; omega) (fun i e => by have e : i = g := e; omega))); have HV5 := aM (Kd.R_mono (Kd.R_bound hv5) (ok' := fun k => W.heap.size ≤ k) (fun k hk => by have := hk.2.1; have := HZ4.out; omega)); have HD5 := aM (show Rdr 170 w5 g bb s4.1 s4.2 from hr5); have HZ5 := aM (show W.heap.size ≤ w5.heap.size from by have h1 := hk5.size; have h2 := HZ4.out; omega); have HS5 := aM (show bb < w5.heap.size from Nat.lt_of_lt_of_le HD4.out.2.2 hk5.size); clear hv5 hr5 hk5 HD4)
  | (go_at_call 49; refine (left_calls g bb s4.1 s4.2 _ HD5.out).mono ?_; rintro _ _ ⟨rfl, rfl⟩)
  | (go_at_call 48; refine (bytes_calls g bb s4.1 s4.2 _ _ HD5.out HS5.out (by have := HS4.out.2; omega)).mono ?_; rintro _ w6 ⟨v6, rfl, hv6, hr6, hk6⟩; rw [H5.out] at hv6 hr6; obtain ⟨A6, c6, rfl, -, -⟩ := Kd.R_reads hv6; have HT6 := aM ((HT5.out.keep hk6 (fun e => by have e : w.heap.size = g := e; omega) (fun e => by have e : gb = g := e; omega) (fun i e => by have e : i = g := e; omega))); have HV6 := aM (Kd.R_mono (Kd.R_bound hv6) (ok' := fun k => W.heap.size ≤ k) (fun k hk => by have := hk.2.1; have := HZ5.out; omega)); have HW5 := aM (Kd.R_step HV5.out (fun k hk hl => hk6.block k hl (fun e => by have e : k = g := e; omega))); have HZ56 := aM (hk6.size); have HD6 := aM (show Rdr 170 w6 g bb s5.1 s5.2 from hr6); clear hv6 hr6 hk6)
  | (go_at_call 50; refine (end_calls g bb s5.1 s5.2 _ HD6.out).mono ?_; rintro _ w7 ⟨rfl, -, hk7, hz7⟩; have HZ7 := aM (show W.heap.size ≤ w7.heap.size from by have h1 := HZ5.out; have h2 := HZ56.out; omega); rw [H6.out]; have HT7 := aM ((HT6.out.keep hk7 (fun e => by have e : w.heap.size = g := e; omega) (fun e => by have e : gb = g := e; omega) (fun i e => by have e : i = g := e; omega))); have HV7 := aM (Kd.R_step HW5.out (fun k hk hl => hk7.block k hl (fun e => by have e : k = g := e; omega))); have HU7 := aM (Kd.R_step HV6.out (fun k hk hl => hk7.block k hl (fun e => by have e : k = g := e; omega))); clear hk7 q0 q1 q2 q3 q4 q5 q6 qz x0 x1 x2 x3 x4 x5 x6 xz; obtain ⟨⟨⟨q0, q1, q2, q3, q4, q5, q6⟩, qz⟩, ⟨x0, x1, x2, x3, x4, x5, x6⟩, xz⟩ := TT.cells HT7.out rfl))
 have hgb7 := blk_lt HT7.out.bx
 have hgw7 := HT7.out.hgb
 clear HT HT4 HT5 HT6 HD5 HD6 HV5 HV6 HW5
 by_cases hs4 : s4.2 = 0
 case neg =>
  have HXE := aM (show X = (zeroTell, s4.2) from by rw [← HXX.out]; exact if_pos hs4)
  have hb1 : (s4.2 == 0) = false := beq_eq_false_iff_ne.mpr hs4
  have hb2 : (s4.2 != 0) = true := bne_iff_ne.mpr hs4
  clear hs4
  go_wp2
  (have rr := HT7.out.res; have p0 := fun x0 x1 x2 x3 x4 x5 x6 => cell_at (putT rr x0 x1 x2 x3 x4 x5 x6) 0 _ rfl; have p1 := fun x0 x1 x2 x3 x4 x5 x6 => cell_at (putT rr x0 x1 x2 x3 x4 x5 x6) 1 _ rfl; have p2 := fun x0 x1 x2 x3 x4 x5 x6 => cell_at (putT rr x0 x1 x2 x3 x4 x5 x6) 2 _ rfl; have p3 := fun x0 x1 x2 x3 x4 x5 x6 => cell_at (putT rr x0 x1 x2 x3 x4 x5 x6) 3 _ rfl; have p4 := fun x0 x1 x2 x3 x4 x5 x6 => cell_at (putT rr x0 x1 x2 x3 x4 x5 x6) 4 _ rfl; have p5 := fun x0 x1 x2 x3 x4 x5 x6 => cell_at (putT rr x0 x1 x2 x3 x4 x5 x6) 5 _ rfl; have p6 := fun x0 x1 x2 x3 x4 x5 x6 => cell_at (putT rr x0 x1 x2 x3 x4 x5 x6) 6 _ rfl; (try simp only [Exit.inBlock, Exit.then]); refine bodyPost_ret (by simp [results, Try.results24, go_sem, p0, p1, p2, p3, p4, p5, p6]; try rfl) rfl ?_)
  rw [HXE.out]
  exact ⟨⟨0, 0, 0, 0, 0, _, [], _, [], rfl, Kd.R_nil _ _ _ _ _, Kd.R_nil _ _ _ _ _, rfl⟩, HT7.out.below.trans (keep_below (putT_far _ _ _ _ _ _ _) HT7.out.below.size (fun i e => by omega))⟩
 have hlb := H7.out hs4
 obtain ⟨l4, c4⟩ := s4
 simp only at hs4 hlb
 subst hs4 hlb
 simp only at HLX HS4 HXX
 obtain ⟨A5', c5', hv5, hl5, hC5⟩ := Kd.R_reads HV7.out
 injection hv5 with hv5 _ hv5'
 subst hv5 hv5'
 have HC5 := aM hC5
 clear hC5 hl5
 by_cases hce : ce = 0
 case neg =>
  have HXE := aM (show X = (zeroTell, ce) from by rw [← HXX.out, if_neg (by simp)]; exact if_pos hce)
  have hb1 : (ce == 0) = false := beq_eq_false_iff_ne.mpr hce
  have hb2 : (ce != 0) = true := bne_iff_ne.mpr hce
  clear hce
  go_wp2_with (go_at_call 61; refine (wread_code A5 c5 cb _ HC5.out HCB.out.2 HCB.out.1).mono ?_; rintro _ w8 ⟨hr8, hb8⟩; rw [HCX.out] at hr8; obtain ⟨p, v, sl, vb, bs, rfl, hR8, hx8⟩ := hr8; obtain ⟨Ab, ab, rfl, -, -⟩ := Kd.R_reads hR8; obtain ⟨nb, hnb⟩ : ∃ nb, bs.length = nb := ⟨_, rfl⟩; rw [hnb] at hR8 ⊢; have HT8 := aM (HT7.out.grow hb8); have HB8 := aM hb8; have HR8 := aM hR8; have HX8 := aM hx8; have HT9 := aM ((((HT8.out.set 2 (.int .i64 p)).set 3 (.int .i64 v)).set 4 (.int .i64 sl)).set 5 (.slice Ab nb ab)); clear hb8 hR8 hx8 hnb q0 q1 q2 q3 q4 q5 q6 qz x0 x1 x2 x3 x4 x5 x6 xz; obtain ⟨⟨⟨q0, q1, q2, q3, q4, q5, q6⟩, qz⟩, ⟨x0, x1, x2, x3, x4, x5, x6⟩, xz⟩ := TT.cells HT8.out rfl; obtain ⟨⟨⟨r0, r1, r2, r3, r4, r5, r6⟩, rz⟩, ⟨y0, y1, y2, y3, y4, y5, y6⟩, yz⟩ := TT.cells HT9.out rfl)
  (have rr := HT9.out.res; have p0 := fun x0 x1 x2 x3 x4 x5 x6 => cell_at (putT rr x0 x1 x2 x3 x4 x5 x6) 0 _ rfl; have p1 := fun x0 x1 x2 x3 x4 x5 x6 => cell_at (putT rr x0 x1 x2 x3 x4 x5 x6) 1 _ rfl; have p2 := fun x0 x1 x2 x3 x4 x5 x6 => cell_at (putT rr x0 x1 x2 x3 x4 x5 x6) 2 _ rfl; have p3 := fun x0 x1 x2 x3 x4 x5 x6 => cell_at (putT rr x0 x1 x2 x3 x4 x5 x6) 3 _ rfl; have p4 := fun x0 x1 x2 x3 x4 x5 x6 => cell_at (putT rr x0 x1 x2 x3 x4 x5 x6) 4 _ rfl; have p5 := fun x0 x1 x2 x3 x4 x5 x6 => cell_at (putT rr x0 x1 x2 x3 x4 x5 x6) 5 _ rfl; have p6 := fun x0 x1 x2 x3 x4 x5 x6 => cell_at (putT rr x0 x1 x2 x3 x4 x5 x6) 6 _ rfl; (try simp only [Exit.inBlock, Exit.then]); refine bodyPost_ret (by simp [results, Try.results24, go_sem, p0, p1, p2, p3, p4, p5, p6]; try rfl) rfl ?_)
  rw [HXE.out]
  exact ⟨⟨0, 0, 0, 0, 0, _, [], _, [], rfl, Kd.R_nil _ _ _ _ _, Kd.R_nil _ _ _ _ _, rfl⟩, HT9.out.below.trans (keep_below (putT_far _ _ _ _ _ _ _) HT9.out.below.size (fun i e => by omega))⟩
 subst hce
 obtain ⟨A6', c6', hv6, hl6, hC6⟩ := Kd.R_reads HU7.out
 injection hv6 with hv6 _ hv6'
 subst hv6 hv6'
 have HC6 := aM hC6
 clear hC6 hl6
 go_upto_region 13 with (go_at_call 61; refine (wread_code A5 c5 cb _ HC5.out HCB.out.2 HCB.out.1).mono ?_; rintro _ w8 ⟨hr8, hb8⟩; rw [HCX.out] at hr8; obtain ⟨p, v, sl, vb, bs, rfl, hR8, hx8⟩ := hr8; obtain ⟨Ab, ab, rfl, -, -⟩ := Kd.R_reads hR8; obtain ⟨nb, hnb⟩ : ∃ nb, bs.length = nb := ⟨_, rfl⟩; rw [hnb] at hR8 ⊢; have HT8 := aM (HT7.out.grow hb8); have HB8 := aM hb8; have HR8 := aM hR8; have HX8 := aM hx8; have HT9 := aM ((((HT8.out.set 2 (.int .i64 p)).set 3 (.int .i64 v)).set 4 (.int .i64 sl)).set 5 (.slice Ab nb ab)); clear hb8 hR8 hx8 hnb q0 q1 q2 q3 q4 q5 q6 qz x0 x1 x2 x3 x4 x5 x6 xz; obtain ⟨⟨⟨q0, q1, q2, q3, q4, q5, q6⟩, qz⟩, ⟨x0, x1, x2, x3, x4, x5, x6⟩, xz⟩ := TT.cells HT8.out rfl; obtain ⟨⟨⟨r0, r1, r2, r3, r4, r5, r6⟩, rz⟩, ⟨y0, y1, y2, y3, y4, y5, y6⟩, yz⟩ := TT.cells HT9.out rfl)
 have hk9 : Keep (fun i => i = gb) w8 ((((w8.setCell ⟨gb, 2, none⟩ (.int .i64 p)).setCell ⟨gb, 3, none⟩ (.int .i64 v)).setCell ⟨gb, 4, none⟩ (.int .i64 sl)).setCell ⟨gb, 5, none⟩ (.slice Ab nb ab)) :=
  ((((Keep.refl (fun i => i = gb) w8).setCell ⟨gb, 2, none⟩ _ (fun _ => rfl)).setCell ⟨gb, 3, none⟩ _ (fun _ => rfl)).setCell ⟨gb, 4, none⟩ _ (fun _ => rfl)).setCell ⟨gb, 5, none⟩ _ (fun _ => rfl)
 obtain ⟨W9, hW9⟩ : ∃ W9, W9 = (((w8.setCell ⟨gb, 2, none⟩ (.int .i64 p)).setCell ⟨gb, 3, none⟩ (.int .i64 v)).setCell ⟨gb, 4, none⟩ (.int .i64 sl)).setCell ⟨gb, 5, none⟩ (.slice Ab nb ab) := ⟨_, rfl⟩
 rw [← hW9] at hk9 HT9 r0 r1 r2 r3 r4 r5 r6 rz y0 y1 y2 y3 y4 y5 y6 yz ⊢
 clear hW9 q0 q1 q2 q3 q4 q5 q6 qz x0 x1 x2 x3 x4 x5 x6 xz HT8
 have HRB9 := aM (Kd.R_step (Kd.R_mono (Kd.R_bound HR8.out) (ok' := fun k => gb < k) (fun k hk => by have := hk.2.1; omega)) (fun k hk hl => hk9.block k hl (fun e => by omega)))
 have HU9 := Kd.R_step (Kd.R_below HU7.out HB8.out) (fun k hk hl => hk9.block k hl (fun e => by omega))
 have HC9 := aM (show kU8.C W9 A6 _ _ from by
  obtain ⟨A', c', e, -, hC⟩ := Kd.R_reads HU9
  injection e with e1 e2 e3
  subst e1
  exact hC)
 have hgb9 : gb < W9.heap.size := blk_lt HT9.out.bx
 clear HU9 hk9 HC6 HC5
 by_cases hle : le = 0
 case neg =>
  have HXE := aM (show X = (zeroTell, le) from by rw [← HXX.out, if_neg (by simp), if_neg (by simp)]; exact if_pos hle)
  have hb1 : (le == 0) = false := beq_eq_false_iff_ne.mpr hle
  have hb2 : (le != 0) = true := bne_iff_ne.mpr hle
  clear hle
  go_wp2_with (go_at_call 62; refine (wread_cert A6 c6 _ _ HC9.out HS4.out.2 HS4.out.1).mono ?_; rintro _ w10 ⟨hr10, hb10⟩; rw [HLX.out] at hr10; obtain ⟨vc, ct, rfl, hR10, hx10⟩ := hr10; obtain ⟨Ac, ac, rfl, -, -⟩ := Kd.R_reads hR10; obtain ⟨nc, hnc⟩ : ∃ nc, ct.length = nc := ⟨_, rfl⟩; rw [hnc] at hR10 ⊢; have HT10 := aM (HT9.out.grow hb10); have HB10 := aM hb10; have HR10 := aM hR10; have HX10 := aM hx10; have HT11 := aM (HT10.out.set 6 (.slice Ac nc ac)); clear hb10 hR10 hx10 hnc r0 r1 r2 r3 r4 r5 r6 rz y0 y1 y2 y3 y4 y5 y6 yz; obtain ⟨⟨⟨q0, q1, q2, q3, q4, q5, q6⟩, qz⟩, ⟨x0, x1, x2, x3, x4, x5, x6⟩, xz⟩ := TT.cells HT10.out rfl; obtain ⟨⟨⟨r0, r1, r2, r3, r4, r5, r6⟩, rz⟩, ⟨y0, y1, y2, y3, y4, y5, y6⟩, yz⟩ := TT.cells HT11.out rfl)
  (have rr := HT11.out.res; have p0 := fun x0 x1 x2 x3 x4 x5 x6 => cell_at (putT rr x0 x1 x2 x3 x4 x5 x6) 0 _ rfl; have p1 := fun x0 x1 x2 x3 x4 x5 x6 => cell_at (putT rr x0 x1 x2 x3 x4 x5 x6) 1 _ rfl; have p2 := fun x0 x1 x2 x3 x4 x5 x6 => cell_at (putT rr x0 x1 x2 x3 x4 x5 x6) 2 _ rfl; have p3 := fun x0 x1 x2 x3 x4 x5 x6 => cell_at (putT rr x0 x1 x2 x3 x4 x5 x6) 3 _ rfl; have p4 := fun x0 x1 x2 x3 x4 x5 x6 => cell_at (putT rr x0 x1 x2 x3 x4 x5 x6) 4 _ rfl; have p5 := fun x0 x1 x2 x3 x4 x5 x6 => cell_at (putT rr x0 x1 x2 x3 x4 x5 x6) 5 _ rfl; have p6 := fun x0 x1 x2 x3 x4 x5 x6 => cell_at (putT rr x0 x1 x2 x3 x4 x5 x6) 6 _ rfl; (try simp only [Exit.inBlock, Exit.then]); refine bodyPost_ret (by simp [results, Try.results24, go_sem, p0, p1, p2, p3, p4, p5, p6]; try rfl) rfl ?_)
  rw [HXE.out]
  exact ⟨⟨0, 0, 0, 0, 0, _, [], _, [], rfl, Kd.R_nil _ _ _ _ _, Kd.R_nil _ _ _ _ _, rfl⟩, HT11.out.below.trans (keep_below (putT_far _ _ _ _ _ _ _) HT11.out.below.size (fun i e => by omega))⟩
 subst hle
 have HXE := aM (show X = ((j, n, cx, lx), 0) from by rw [← HXX.out, if_neg (by simp), if_neg (by simp), if_neg (by simp)])
 go_wp2_with (go_at_call 62; refine (wread_cert A6 c6 _ _ HC9.out HS4.out.2 HS4.out.1).mono ?_; rintro _ w10 ⟨hr10, hb10⟩; rw [HLX.out] at hr10; obtain ⟨vc, ct, rfl, hR10, hx10⟩ := hr10; obtain ⟨Ac, ac, rfl, -, -⟩ := Kd.R_reads hR10; obtain ⟨nc, hnc⟩ : ∃ nc, ct.length = nc := ⟨_, rfl⟩; rw [hnc] at hR10 ⊢; have HT10 := aM (HT9.out.grow hb10); have HB10 := aM hb10; have HR10 := aM hR10; have HX10 := aM hx10; have HT11 := aM (HT10.out.set 6 (.slice Ac nc ac)); clear hb10 hR10 hx10 hnc r0 r1 r2 r3 r4 r5 r6 rz y0 y1 y2 y3 y4 y5 y6 yz; obtain ⟨⟨⟨q0, q1, q2, q3, q4, q5, q6⟩, qz⟩, ⟨x0, x1, x2, x3, x4, x5, x6⟩, xz⟩ := TT.cells HT10.out rfl; obtain ⟨⟨⟨r0, r1, r2, r3, r4, r5, r6⟩, rz⟩, ⟨y0, y1, y2, y3, y4, y5, y6⟩, yz⟩ := TT.cells HT11.out rfl)
 (have rr := HT11.out.res; have p0 := fun x0 x1 x2 x3 x4 x5 x6 => cell_at (putT rr x0 x1 x2 x3 x4 x5 x6) 0 _ rfl; have p1 := fun x0 x1 x2 x3 x4 x5 x6 => cell_at (putT rr x0 x1 x2 x3 x4 x5 x6) 1 _ rfl; have p2 := fun x0 x1 x2 x3 x4 x5 x6 => cell_at (putT rr x0 x1 x2 x3 x4 x5 x6) 2 _ rfl; have p3 := fun x0 x1 x2 x3 x4 x5 x6 => cell_at (putT rr x0 x1 x2 x3 x4 x5 x6) 3 _ rfl; have p4 := fun x0 x1 x2 x3 x4 x5 x6 => cell_at (putT rr x0 x1 x2 x3 x4 x5 x6) 4 _ rfl; have p5 := fun x0 x1 x2 x3 x4 x5 x6 => cell_at (putT rr x0 x1 x2 x3 x4 x5 x6) 5 _ rfl; have p6 := fun x0 x1 x2 x3 x4 x5 x6 => cell_at (putT rr x0 x1 x2 x3 x4 x5 x6) 6 _ rfl; (try simp only [Exit.inBlock, Exit.then]); refine bodyPost_ret (by simp [results, Try.results24, go_sem, p0, p1, p2, p3, p4, p5, p6]; try rfl) rfl ?_)
 rw [HXE.out]
 have hcx : cx = (p, v, sl, bs) := by
  rcases HX8.out with ⟨-, h⟩ | ⟨h, -⟩
  · exact h
  · exact absurd rfl h
 have hlx : lx = ct := by
  rcases HX10.out with ⟨-, h⟩ | ⟨h, -⟩
  · exact h
  · exact absurd rfl h
 have hgw := HT11.out.hgb
 have hzz := HT10.out.below.size
 refine ⟨⟨j, n, p, v, sl, _, bs, _, ct, rfl, ?_, ?_, by rw [hcx, hlx]⟩, HT11.out.below.trans (keep_below (putT_far _ _ _ _ _ _ _) HT11.out.below.size (fun i e => by omega))⟩
 · exact Kd.R_mono (Kd.R_step (Kd.R_lower (Kd.R_below HRB9.out HB10.out) (by omega)) (fun k hk hl => ((putT_far _ _ _ _ _ _ _).block k (by simp only [size_set]; exact hl) (fun e => by omega)).trans (Below.heap_setCell _ _ _ _ (show k ≠ gb by omega)))) (fun _ _ => trivial)
 · exact Kd.R_mono (Kd.R_step (Kd.R_lower (Kd.R_mono (Kd.R_bound HR10.out) (ok' := fun k => gb < k) (fun k hk => by have := hk.2.1; omega)) (by omega)) (fun k hk hl => ((putT_far _ _ _ _ _ _ _).block k (by simp only [size_set]; exact hl) (fun e => by omega)).trans (Below.heap_setCell _ _ _ _ (show k ≠ gb by omega)))) (fun _ _ => trivial)
end Go.Proofs.Ytnckonglodmfeaa.Ik
namespace Go.Proofs.Ytnckonglodmfeaa.Ik
open Ls Go.RowKit Go.Proofs.YtnckonglodmfeaaW.PrintWords Go.Proofs.YtnckonglodmfeaaW.PrintLast Go.Proofs.YtnckonglodmfeaaW.PrintMore B R S Is Js Gs Gc
end Go.Proofs.Ytnckonglodmfeaa.Ik
namespace Go.Proofs.Ytnckonglodmfeaa.Ik
open Ls Go.RowKit Go.Proofs.YtnckonglodmfeaaW.PrintWords Go.Proofs.YtnckonglodmfeaaW.PrintLast Go.Proofs.YtnckonglodmfeaaW.PrintMore B R S Is Js Gs Gc
set_option maxHeartbeats 4000000 in
set_option maxRecDepth 100000 in
theorem same_tells (j n p v sl : Int) (l : List Blk) (n0 : Nat) (hn : l.length = n0) (ct : Crt) (m0 : Nat) (hm : ct.length = m0) (A B : Option Addr) (c e : Nat) (D E : Option Addr) (d f : Nat) (w : World) (hA : kBlk.C w A n0 l) (hB : kBlk.C w B n0 l) (hD : kPs.C w D m0 ct) (hE : kPs.C w E m0 ct) :
 Calls Try.prog 26 #[.agg #[.int .i64 j, .int .u64 n, .int .i64 p, .int .i64 v, .int .i64 sl, .slice A n0 c, .slice D m0 d], .agg #[.int .i64 j, .int .u64 n, .int .i64 p, .int .i64 v, .int .i64 sl, .slice B n0 e, .slice E m0 f]] w fun r w' => r = .returned (.bool true) ∧ Below w.heap.size w w' := by
 have mixed : Try.prog.follows .mixedOrders = true := by kernel_rfl
 have HA := aM hA
 have HB := aM hB
 have HD := aM hD
 have HE := aM hE
 have HN := aM hn
 have HM := aM hm
 clear hA hB hn hD hE hm
 obtain ⟨W0, hW0⟩ : ∃ W0, W0 = (w.alloc (.cells #[.int .i64 j, .int .u64 n, .int .i64 p, .int .i64 v, .int .i64 sl, .slice A n0 c, .slice D m0 d] 57)).alloc (.cells #[.int .i64 j, .int .u64 n, .int .i64 p, .int .i64 v, .int .i64 sl, .slice B n0 e, .slice E m0 f] 57) := ⟨_, rfl⟩
 have HWF := aM (show Below w.heap.size w W0 from by rw [hW0]; exact ((Below.refl _ _).alloc (Nat.le_refl _) _).alloc (by rw [World.size_alloc]; omega) _)
 have HSZ := aM (show W0.heap.size = w.heap.size + 2 by rw [hW0, World.size_alloc, World.size_alloc])
 have HX := aM (show ∀ W', Below (w.heap.size + 2) W0 W' → ((W'.cell? ⟨w.heap.size, 0, none⟩ = some (.int .i64 j) ∧ W'.cell? ⟨w.heap.size, 1, none⟩ = some (.int .u64 n) ∧ W'.cell? ⟨w.heap.size, 2, none⟩ = some (.int .i64 p) ∧ W'.cell? ⟨w.heap.size, 3, none⟩ = some (.int .i64 v) ∧ W'.cell? ⟨w.heap.size, 4, none⟩ = some (.int .i64 sl) ∧ W'.cell? ⟨w.heap.size, 5, none⟩ = some (.slice A n0 c) ∧ W'.cell? ⟨w.heap.size, 6, none⟩ = some (.slice D m0 d)) ∧ ∀ j, W'.frozen? ⟨w.heap.size, j, none⟩ = false) ∧ ((W'.cell? ⟨w.heap.size + 1, 0, none⟩ = some (.int .i64 j) ∧ W'.cell? ⟨w.heap.size + 1, 1, none⟩ = some (.int .u64 n) ∧ W'.cell? ⟨w.heap.size + 1, 2, none⟩ = some (.int .i64 p) ∧ W'.cell? ⟨w.heap.size + 1, 3, none⟩ = some (.int .i64 v) ∧ W'.cell? ⟨w.heap.size + 1, 4, none⟩ = some (.int .i64 sl) ∧ W'.cell? ⟨w.heap.size + 1, 5, none⟩ = some (.slice B n0 e) ∧ W'.cell? ⟨w.heap.size + 1, 6, none⟩ = some (.slice E m0 f)) ∧ ∀ j, W'.frozen? ⟨w.heap.size + 1, j, none⟩ = false) from fun W' h => by
  subst hW0
  obtain ⟨g, g'⟩ := two_cells h
  exact ⟨cells7 g, cells7 g'⟩)
 obtain ⟨⟨⟨q0, q1, q2, q3, q4, q5, q6⟩, qz⟩, ⟨x0, x1, x2, x3, x4, x5, x6⟩, xz⟩ := HX.out W0 (Below.refl _ _)
 go_enter Try.func26, Try.ntmps26
 go_upto_region 1 with fail
 rw [← hW0]
 clear hW0
 go_wp2_with (first
  | (go_at_call 66; refine (same_codes p v sl l n0 HN.out A B c e _ (Kd.C_below HA.out HWF.out) (Kd.C_below HB.out HWF.out)).mono ?_; rintro _ w7 ⟨rfl, hb⟩; have HZ7 := aM (show Below (w.heap.size + 2) W0 w7 from by rw [← HSZ.out]; exact hb); have HW7 := aM (HWF.out.trans (hb.mono HWF.out.size)); clear hb q0 q1 q2 q3 q4 q5 q6 qz x0 x1 x2 x3 x4 x5 x6 xz; obtain ⟨⟨⟨q0, q1, q2, q3, q4, q5, q6⟩, qz⟩, ⟨x0, x1, x2, x3, x4, x5, x6⟩, xz⟩ := HX.out w7 HZ7.out)
  | (go_at_call 67; refine (same_certs ct m0 HM.out D E d f _ (Kd.C_below HD.out HW7.out) (Kd.C_below HE.out HW7.out)).mono ?_; rintro _ w8 ⟨rfl, hb⟩; have HW8 := aM (HW7.out.trans (hb.mono HW7.out.size)); clear hb))
 go_ret
 exact ⟨rfl, HW8.out⟩
end Go.Proofs.Ytnckonglodmfeaa.Ik
namespace Go.Proofs.Ytnckonglodmfeaa.Ik
open Ls Lc Go.RowKit Go.Proofs.YtnckonglodmfeaaW.PrintWords Go.Proofs.YtnckonglodmfeaaW.PrintLast Go.Proofs.YtnckonglodmfeaaW.PrintMore B O R S Is Js Gs Gc
end Go.Proofs.Ytnckonglodmfeaa.Ik
namespace Go.Proofs.Ytnckonglodmfeaa.Ik
open Go.RowKit Go.Proofs.YtnckonglodmfeaaW.PrintWords Go.Proofs.YtnckonglodmfeaaW.PrintLast Go.Proofs.YtnckonglodmfeaaW.PrintMore B R S Ls Is
theorem code_len2 {p v sl : Int} {l : List Blk} (h0 : codeErr (p, v, sl, l) = 0) (hR : ∀ b ∈ l, BlkR b ∧ b.1.length ≤ 28) (h7 : l.length ≤ 7) : (codeL (p, v, sl, l)).length ≤ 19990 := by
 obtain ⟨h16, hok⟩ := code_ok h0 (fun b hb => (hR b hb).1)
 have h1 := flat_len blkL 2850 l (fun b hb => by
  have h1 := insl_len b.1 (hok b hb).2.2
  have h2 := end_len b.2
  have h3 := field_len b.1.length
  have h4 := (hR b hb).2
  simp only [blkL, List.length_append]
  omega)
 have h2 := field_len l.length
 have h3 := fields_len [p, v, sl]
 simp only [codeL, blksL, List.length_append, List.length_cons, List.length_nil] at *
 omega
theorem crt_small {l : Crt} (h : l.length ≤ 3) (hl : ∀ ps ∈ l, ps.length ≤ 1) : (certL l).length ≤ 100 := by
 have h1 := flat_len prsL 30 l (fun ps hps => by
  have h1 := flat_len prL 20 ps (fun p _ => pr_len p)
  have h2 := field_len ps.length
  have h3 := hl ps hps
  simp only [prsL, List.length_append]
  omega)
 have h2 := field_len l.length
 simp only [certL, List.length_append]
 omega
theorem tellB_len {j n p v sl : Int} {l : List Blk} {ct : Crt} (hn : 0 ≤ n ∧ n < 18446744073709551616) (h0 : codeErr (p, v, sl, l) = 0) (hR : ∀ b ∈ l, BlkR b ∧ b.1.length ≤ 28) (h7 : l.length ≤ 7) (h3 : ct.length ≤ 3) (hl : ∀ ps ∈ ct, ps.length ≤ 1) : (tellB (j, n, (p, v, sl, l), ct)).length ≤ 20200 := by
 have h1 := code_len2 h0 hR h7
 have h2 := crt_small h3 hl
 have h4 := field_len j
 have h5 := putl_ten n.toNat (by omega)
 have h6 := field_len (codeL (p, v, sl, l)).length
 simp only [tellB, List.length_append]
 omega
theorem lit_pair {W : World} {g : Nat} {a b : Int} (h : W.heap[g]? = some (.cells #[.int .i64 a, .int .i64 b] 61 (0, 0))) : kP.C W (some ⟨g, 0, none⟩) 1 [(a, b)] := by
 refine ⟨rfl, by decide, fun _ => ⟨_, rfl, fun j p hj => ?_⟩⟩
 obtain ⟨rfl, rfl⟩ : j = 0 ∧ p = (a, b) := by
  rcases j with _ | j
  · exact ⟨rfl, by simpa using hj.symm⟩
  · simp at hj
 refine ⟨[.int .i64 a, .int .i64 b], rfl, ⟨[_], [_], rfl, rfl, rfl⟩, fun i u hu => ?_⟩
 rw [Nat.zero_mul, Nat.zero_add, add_plain, blk_cell h, ← hu]
 simp
end Go.Proofs.Ytnckonglodmfeaa.Ik
namespace Go.Proofs.Ytnckonglodmfeaa.Ik
open Go.RowKit Go.Proofs.YtnckonglodmfeaaW.PrintWords Go.Proofs.YtnckonglodmfeaaW.PrintLast Go.Proofs.YtnckonglodmfeaaW.PrintMore B R S Ls Is
def crt1 : Crt := [[(1, 0)], []]
theorem crt1_err : certErr crt1 = 0 := by decide
theorem lit_cert1 {W : World} {g1 g3 : Nat} (h1 : W.heap[g1]? = some (.cells #[.int .i64 1, .int .i64 0] 61 (0, 0)))
 (h3 : W.heap[g3]? = some (.cells #[.slice (some ⟨g1, 0, none⟩) 1 1, .slice none 0 0] 58 (0, 0))) : kPs.C W (some ⟨g3, 0, none⟩) 2 crt1 := by
 refine ⟨rfl, by decide, fun _ => ⟨_, rfl, fun j p hj => ?_⟩⟩
 rcases (by have := (List.getElem?_eq_some_iff.1 hj).1; simp only [crt1, List.length_cons, List.length_nil] at this; omega : j = 0 ∨ j = 1) with rfl | rfl
 · obtain rfl : p = [(1, 0)] := by simpa [crt1] using hj.symm
   refine ⟨[.slice (some ⟨g1, 0, none⟩) 1 1], rfl, ⟨_, _, rfl, Nat.le_refl _, lit_pair h1⟩, fun i u hu => ?_⟩
   obtain ⟨rfl, rfl⟩ : i = 0 ∧ u = .slice (some ⟨g1, 0, none⟩) 1 1 := by
    rcases i with _ | i
    · exact ⟨rfl, by simpa using hu.symm⟩
    · simp at hu
   rw [add_plain, blk_cell h3]; rfl
 · obtain rfl : p = [] := by simpa [crt1] using hj.symm
   refine ⟨[.slice none 0 0], rfl, ⟨_, _, rfl, Nat.le_refl _, Kd.C_nil _ _⟩, fun i u hu => ?_⟩
   obtain ⟨rfl, rfl⟩ : i = 0 ∧ u = .slice none 0 0 := by
    rcases i with _ | i
    · exact ⟨rfl, by simpa using hu.symm⟩
    · simp at hu
   rw [add_plain, blk_cell h3]; rfl
end Go.Proofs.Ytnckonglodmfeaa.Ik
namespace Go.Proofs.Ytnckonglodmfeaa.Ik
open Go.RowKit Go.Proofs.YtnckonglodmfeaaW.PrintWords Go.Proofs.YtnckonglodmfeaaW.PrintLast Go.Proofs.YtnckonglodmfeaaW.PrintMore B R S Is
def Swap (u v : Value) (cs cs' : List Value) : Prop := cs'.length = cs.length ∧ ∀ i : Nat, cs'[i]? = cs[i]? ∨ (cs[i]? = some u ∧ cs'[i]? = some v)
theorem Swap.take {u v : Value} {cs cs' : List Value} (h : Swap u v cs cs') (n : Nat) : Swap u v (cs.take n) (cs'.take n) := by
 refine ⟨by rw [List.length_take, List.length_take, h.1], fun i => ?_⟩
 rw [List.getElem?_take, List.getElem?_take]
 split
 · exact h.2 i
 · exact .inl rfl
theorem Swap.drop {u v : Value} {cs cs' : List Value} (h : Swap u v cs cs') (n : Nat) : Swap u v (cs.drop n) (cs'.drop n) := by
 refine ⟨by rw [List.length_drop, List.length_drop, h.1], fun i => ?_⟩
 rw [List.getElem?_drop, List.getElem?_drop]
 exact h.2 (n + i)
theorem Swap.one {u v c : Value} {cs' : List Value} (h : Swap u v [c] cs') : cs' = [c] ∨ (c = u ∧ cs' = [v]) := by
 obtain ⟨h1, h2⟩ := h
 obtain ⟨c', rfl⟩ : ∃ c', cs' = [c'] := List.length_eq_one_iff.1 h1
 have h3 := h2 0
 simp only [List.getElem?_cons_zero, Option.some.injEq] at h3
 rcases h3 with h3 | ⟨h3, h4⟩
 · exact .inl (by rw [h3])
 · exact .inr ⟨h3, by rw [h4]⟩
def Soft {α : Type} (d : Kd α) (rel : Int → Int → α → α → Prop) : Prop :=
 ∀ (w : World) (base : Nat) (ok : Nat → Prop) (x : α) (cs : List Value) (g off : Nat) (u v : Int), d.M w base ok x cs → w.cell? ⟨g, off, none⟩ = some (.int .i64 u) → ∀ cs', Swap (.int .i64 u) (.int .i64 v) cs cs' → ∃ x', d.M (w.setCell ⟨g, off, none⟩ (.int .i64 v)) base ok x' cs' ∧ rel u v x x'
theorem soft_i64 : Soft kI (fun u v x x' => x' = x ∨ (x = u ∧ x' = v)) := by
 intro w base ok x cs g off u v h hc cs' hs
 have e : cs = [.int .i64 x] := h
 subst e
 rcases hs.one with rfl | ⟨e, rfl⟩
 · exact ⟨x, rfl, .inl rfl⟩
 · injection e with _ e
   exact ⟨v, rfl, .inr ⟨e, rfl⟩⟩
theorem soft_u8 : Soft kU8 (fun _ _ x x' => x' = x) := by
 intro w base ok x cs g off u v h hc cs' hs
 have e : cs = [.int .u8 x] := h
 subst e
 rcases hs.one with rfl | ⟨h1, -⟩
 · exact ⟨x, rfl, rfl⟩
 · exact absurd h1 (by simp)
theorem soft_pair {α β : Type} {a : Kd α} {b : Kd β} {ra : Int → Int → α → α → Prop} {rb : Int → Int → β → β → Prop} (ha : Soft a ra) (hb : Soft b rb) : Soft (Kd.pair a b) (fun u v x x' => ra u v x.1 x'.1 ∧ rb u v x.2 x'.2) := by
 rintro w base ok ⟨x, y⟩ cs g off u v ⟨c0, c1, rfl, h0, h1⟩ hc cs' hs
 have l0 : (cs'.take c0.length) ++ (cs'.drop c0.length) = cs' := List.take_append_drop _ _
 have s0 := hs.take c0.length
 have s1 := hs.drop c0.length
 rw [List.take_left'] at s0
 rw [List.drop_left'] at s1
 · obtain ⟨x', hx, rx⟩ := ha w base ok x c0 g off u v h0 hc _ s0
   obtain ⟨y', hy, ry⟩ := hb w base ok y c1 g off u v h1 hc _ s1
   exact ⟨(x', y'), ⟨_, _, l0.symm, hx, hy⟩, rx, ry⟩
 · rfl
 · rfl
theorem list_choose {α : Type} (xs : List α) (P : Nat → α → α → Prop) (h : ∀ j x, xs[j]? = some x → ∃ x', P j x x') : ∃ xs' : List α, xs'.length = xs.length ∧ ∀ (j : Nat) (x x' : α), xs[j]? = some x → xs'[j]? = some x' → P j x x' := by
 induction xs generalizing P with
 | nil => exact ⟨[], rfl, fun j x x' h => by simp at h⟩
 | cons a l ih =>
  obtain ⟨a', ha⟩ := h 0 a rfl
  obtain ⟨l', hl, hp⟩ := ih (fun j => P (j + 1)) (fun j x hj => h (j + 1) x hj)
  refine ⟨a' :: l', by simp [hl], fun j x x' h1 h2 => ?_⟩
  rcases j with _ | j
  · simp only [List.getElem?_cons_zero, Option.some.injEq] at h1 h2
    subst h1 h2
    exact ha
  · simp only [List.getElem?_cons_succ] at h1 h2
    exact hp j x x' h1 h2
theorem soft_own {w : World} {base e size n : Nat} {v0 : Value} {inner : List Value} {g off : Nat} {u v : Int} (h : w.ownsRow base e size v0 n inner) (hc : w.cell? ⟨g, off, none⟩ = some (.int .i64 u)) :
 ∃ inner', (w.setCell ⟨g, off, none⟩ (.int .i64 v)).ownsRow base e size v0 n inner' ∧ Swap (.int .i64 u) (.int .i64 v) inner inner' := by
 obtain ⟨hl, h | ⟨g', cap, cur, rfl, hg, hh, h1, h2, h3, h4⟩⟩ := h
 · exact ⟨inner, ⟨hl, .inl h⟩, rfl, fun i => .inl rfl⟩
 · by_cases hgg : g' = g
   · subst hgg
     have hcur : cur[off]? = some (.int .i64 u) := by
      unfold World.cell? at hc
      rw [hh] at hc
      simpa using hc
     refine ⟨(cur.setIfInBounds off (.int .i64 v)).toList.take (n * size), ⟨?_, .inr ⟨g', cap, _, rfl, hg, heap_setCell_same w g' off cur _ _ hh, h1, h2, by rw [Array.size_setIfInBounds]; exact h3, rfl⟩⟩, ?_⟩
     · rw [← hl, ← h4]
       simp
     · rw [← h4]
       refine Swap.take ⟨by simp, fun i => ?_⟩ _
       rw [Array.getElem?_toList, Array.getElem?_toList, Array.getElem?_setIfInBounds]
       by_cases hi : off = i
       · subst hi
         have hlt := (Array.getElem?_eq_some_iff.1 hcur).1
         rw [if_pos rfl, if_pos hlt]
         exact .inr ⟨hcur, rfl⟩
       · rw [if_neg hi]
         exact .inl rfl
   · exact ⟨inner, ⟨hl, .inr ⟨g', cap, cur, rfl, hg, (Below.heap_setCell _ _ _ _ (by show g' ≠ g; exact hgg)).trans hh, h1, h2, h3, h4⟩⟩, rfl, fun i => .inl rfl⟩
theorem soft_R {α : Type} {d : Kd α} {rel : Int → Int → α → α → Prop} (hd : Soft d rel) {e : Nat} {w : World} {base : Nat} {ok : Nat → Prop} {v0 : Value} {xs : List α} {g off : Nat} {u v : Int} (h : d.R e w base ok v0 xs) (hc : w.cell? ⟨g, off, none⟩ = some (.int .i64 u)) :
 ∃ xs', d.R e (w.setCell ⟨g, off, none⟩ (.int .i64 v)) base ok v0 xs' ∧ xs'.length = xs.length ∧ ∀ (j : Nat) (x x' : α), xs[j]? = some x → xs'[j]? = some x' → rel u v x x' := by
 obtain ⟨h0, inner, ho, hr1, hr2⟩ := h
 obtain ⟨inner', ho', hs⟩ := soft_own (v := v) ho hc
 obtain ⟨xs', hl, hp⟩ := list_choose xs (fun j x x' => d.M (w.setCell ⟨g, off, none⟩ (.int .i64 v)) base (fun k => ok k ∧ some k ≠ v0.ownBlock) x' ((inner'.drop (j * d.sz)).take d.sz) ∧ rel u v x x')
  (fun j x hj => hd w base _ x _ g off u v (hr2 j x hj) hc _ ((hs.drop _).take _))
 refine ⟨xs', ⟨h0, inner', by rw [hl]; exact ho', ⟨by rw [hs.1, hr1, hl], fun j x' hj => ?_⟩⟩, hl, fun j x x' h1 h2 => (hp j x x' h1 h2).2⟩
 have hlt : j < xs.length := by rw [← hl]; exact (List.getElem?_eq_some_iff.1 hj).1
 exact (hp j _ x' (List.getElem?_eq_getElem hlt) hj).1
theorem soft_slice {α : Type} {d : Kd α} {rel : Int → Int → α → α → Prop} (hd : Soft d rel) (e : Nat) : Soft (Kd.slice e d) (fun u v xs xs' => xs'.length = xs.length ∧ ∀ (j : Nat) (x x' : α), xs[j]? = some x → xs'[j]? = some x' → rel u v x x') := by
 rintro w base ok xs cs g off u v ⟨v0, rfl, h⟩ hc cs' hs
 obtain ⟨xs', h1, h2, h3⟩ := soft_R (v := v) hd h hc
 rcases hs.one with rfl | ⟨h4, -⟩
 · exact ⟨xs', ⟨v0, rfl, h1⟩, h2, h3⟩
 · obtain ⟨A, c, he⟩ := Kd.R_slice h
   rw [he] at h4
   exact absurd h4 (by simp)
end Go.Proofs.Ytnckonglodmfeaa.Ik
namespace Go.Proofs.Ytnckonglodmfeaa.Ik
open Go.RowKit Go.Proofs.YtnckonglodmfeaaW.PrintWords Go.Proofs.YtnckonglodmfeaaW.PrintLast Go.Proofs.YtnckonglodmfeaaW.PrintMore B R S Is
def To (u v x x' : Int) : Prop := x' = x ∨ (x = u ∧ x' = v)
def RowTo {α : Type} (R : α → α → Prop) (xs xs' : List α) : Prop := xs'.length = xs.length ∧ ∀ (j : Nat) (x x' : α), xs[j]? = some x → xs'[j]? = some x' → R x x'
def InsTo (u v : Int) (i i' : Ins) : Prop := i'.1 = i.1 ∧ i'.2.1 = i.2.1 ∧ To u v i.2.2.1 i'.2.2.1 ∧ To u v i.2.2.2.1 i'.2.2.2.1 ∧ To u v i.2.2.2.2.1 i'.2.2.2.2.1 ∧ To u v i.2.2.2.2.2.1 i'.2.2.2.2.2.1 ∧ RowTo (To u v) i.2.2.2.2.2.2 i'.2.2.2.2.2.2
def EndTo (u v : Int) (e e' : IEnd) : Prop := e'.1 = e.1 ∧ To u v e.2.1 e'.2.1 ∧ To u v e.2.2.1 e'.2.2.1 ∧ To u v e.2.2.2 e'.2.2.2
def BlkTo (u v : Int) (b b' : Blk) : Prop := RowTo (InsTo u v) b.1 b'.1 ∧ EndTo u v b.2 b'.2
theorem soft_ins : Soft kIns InsTo := soft_pair soft_u8 (soft_pair soft_u8 (soft_pair soft_i64 (soft_pair soft_i64 (soft_pair soft_i64 (soft_pair soft_i64 (soft_slice soft_i64 3))))))
theorem soft_end : Soft kEnd EndTo := soft_pair soft_u8 (soft_pair soft_i64 (soft_pair soft_i64 soft_i64))
theorem soft_blk : Soft kBlk BlkTo := soft_pair (soft_slice soft_ins 92) soft_end
theorem soft_blks {w : World} {base : Nat} {ok : Nat → Prop} {v0 : Value} {l : List Blk} {g off : Nat} {u v : Int} (h : kBlk.R 84 w base ok v0 l) (hc : w.cell? ⟨g, off, none⟩ = some (.int .i64 u)) :
 ∃ l', kBlk.R 84 (w.setCell ⟨g, off, none⟩ (.int .i64 v)) base ok v0 l' ∧ RowTo (BlkTo u v) l l' := by
 obtain ⟨l', h1, h2, h3⟩ := soft_R (v := v) soft_blk h hc
 exact ⟨l', h1, h2, h3⟩
theorem RowTo.get {α : Type} {R : α → α → Prop} {xs xs' : List α} (h : RowTo R xs xs') {j : Nat} {x : α} (hx : xs[j]? = some x) : ∃ x', xs'[j]? = some x' ∧ R x x' := by
 have hj := (List.getElem?_eq_some_iff.1 hx).1
 have hj' : j < xs'.length := by rw [h.1]; exact hj
 exact ⟨_, List.getElem?_eq_getElem hj', h.2 j x _ hx (List.getElem?_eq_getElem hj')⟩
theorem RowTo.back {α : Type} {R : α → α → Prop} {xs xs' : List α} (h : RowTo R xs xs') {j : Nat} {x' : α} (hx : xs'[j]? = some x') : ∃ x, xs[j]? = some x ∧ R x x' := by
 have hj := (List.getElem?_eq_some_iff.1 hx).1
 have hj' : j < xs.length := by rw [← h.1]; exact hj
 exact ⟨_, List.getElem?_eq_getElem hj', h.2 j _ x' (List.getElem?_eq_getElem hj') hx⟩
theorem RowTo.all {α : Type} {R : α → α → Prop} {P Q : α → Prop} {xs xs' : List α} (h : RowTo R xs xs') (hs : ∀ x x', R x x' → P x → Q x') (hp : ∀ x ∈ xs, P x) : ∀ x ∈ xs', Q x := by
 intro x' hx'
 obtain ⟨j, hj⟩ := List.getElem?_of_mem hx'
 obtain ⟨x, hx, hr⟩ := h.back hj
 exact hs _ _ hr (hp _ (List.mem_of_getElem? hx))
def Less (R u v : Int) : Prop := 0 ≤ v ∧ v ≤ u ∧ v < R ∧ I64 v
theorem tmod_less {R u : Int} (h0 : 0 ≤ u) (hR : 3 ≤ R) (hR8 : R ≤ 8) : Less R u (u.tmod R) := by
 rw [Int.tmod_eq_emod_of_nonneg h0]
 have h1 := Int.emod_nonneg u (show R ≠ 0 by omega)
 have h2 := Int.emod_lt_of_pos u (show 0 < R by omega)
 have h3 : u % R ≤ u := by
  by_cases h : u < R
  · rw [Int.emod_eq_of_lt h0 h]; exact Int.le_refl _
  · omega
 exact ⟨h1, h3, h2, ⟨by omega, by omega⟩⟩
theorem To.pos {R u v x x' : Int} (hl : Less R u v) (h : To u v x x') (hx : 0 ≤ x) : 0 ≤ x' := by
 rcases h with rfl | ⟨-, rfl⟩
 · exact hx
 · exact hl.1
theorem To.le {R u v x x' : Int} (hl : Less R u v) (h : To u v x x') : x' ≤ x := by
 rcases h with rfl | ⟨rfl, rfl⟩
 · exact Int.le_refl _
 · exact hl.2.1
theorem To.i64 {R u v x x' : Int} (hl : Less R u v) (h : To u v x x') (hx : I64 x) : I64 x' := by
 rcases h with rfl | ⟨-, rfl⟩
 · exact hx
 · exact hl.2.2.2
theorem To.zero {R u v x x' : Int} (hl : Less R u v) (h : To u v x x') (hx : x = 0) : x' = 0 := by
 rcases h with rfl | ⟨rfl, rfl⟩
 · exact hx
 · have h1 := hl.1; have h2 := hl.2.1; omega
theorem To.fin {R u v x x' : Int} (hl : Less R u v) (h : To u v x x') (hx : 0 ≤ x ∧ x < R) : 0 ≤ x' ∧ x' < R := by
 rcases h with rfl | ⟨-, rfl⟩
 · exact hx
 · exact ⟨hl.1, hl.2.2.1⟩
def PreI (i : Ins) : Prop := (1 ≤ i.1 ∧ i.1 ≤ 6) ∧ plainB i = true ∧ (i.1 = 3 → 1 ≤ i.2.1 ∧ i.2.1 ≤ 7) ∧ i.2.2.2.2.2.2.length ≤ 3 ∧ (0 ≤ i.2.2.1 ∧ 0 ≤ i.2.2.2.1 ∧ 0 ≤ i.2.2.2.2.1) ∧ (∀ x ∈ i.2.2.2.2.2.2, 0 ≤ x) ∧ InsR i
def PreE (nb : Int) (e : IEnd) : Prop := (1 ≤ e.1 ∧ e.1 ≤ 3) ∧ (e.1 = 1 → e.2.1 = 0 ∧ e.2.2.2 = 0) ∧ (e.1 = 3 → e.2.2.1 = 0 ∧ e.2.2.2 = 0) ∧ 0 ≤ e.2.1 ∧ (e.1 ≠ 3 → 0 ≤ e.2.2.1 ∧ e.2.2.1 < nb) ∧ (e.1 = 2 → 0 ≤ e.2.2.2 ∧ e.2.2.2 < nb) ∧ EndR e
def PreB (nb : Int) (b : Blk) : Prop := b.1.length ≤ 8 ∧ (∀ i ∈ b.1, PreI i) ∧ PreE nb b.2
theorem PreI.to {R u v : Int} (hl : Less R u v) {i i' : Ins} (h : InsTo u v i i') (hp : PreI i) : PreI i' := by
 obtain ⟨k, op, d, a, b, n, args⟩ := i
 obtain ⟨k', op', d', a', b', n', args'⟩ := i'
 obtain ⟨rfl, rfl, hd, ha, hb, hn, hr⟩ := h
 obtain ⟨h1, h2, h3, h4, ⟨h5, h6, h7⟩, h8, g1, g2, g3, g4, g5, g6, g7⟩ := hp
 simp only at *
 refine ⟨h1, ?_, h3, by rw [hr.1]; exact h4, ⟨hd.pos hl h5, ha.pos hl h6, hb.pos hl h7⟩, hr.all (fun x x' h hx => To.pos hl h hx) h8, g1, g2, hd.i64 hl g3, ha.i64 hl g4, hb.i64 hl g5, hn.i64 hl g6, hr.all (fun x x' h hx => To.i64 hl h hx) g7⟩
 have z1 := hd.zero hl
 have z2 := ha.zero hl
 have z3 := hb.zero hl
 have z4 := hn.zero hl
 have z5 := hr.1
 have h2' := of_decide_eq_true h2
 refine decide_eq_true ?_
 rw [z5]
 obtain ⟨e1, e2, e3, e4, e5, e6⟩ := h2'
 exact ⟨e1, e2.imp_left z1, e3.imp_left z2, e4.imp_left z3, e5.imp_left z4, e6⟩
theorem PreE.to {R u v nb : Int} (hl : Less R u v) {e e' : IEnd} (h : EndTo u v e e') (hp : PreE nb e) : PreE nb e' := by
 obtain ⟨k, a, t, s⟩ := e
 obtain ⟨k', a', t', s'⟩ := e'
 obtain ⟨rfl, ha, ht, hs⟩ := h
 obtain ⟨h1, h2, h3, h4, h5, h6, g1, g2, g3, g4⟩ := hp
 simp only at *
 have l1 := ht.le hl
 have l2 := hs.le hl
 refine ⟨h1, fun e => ⟨ha.zero hl (h2 e).1, hs.zero hl (h2 e).2⟩, fun e => ⟨ht.zero hl (h3 e).1, hs.zero hl (h3 e).2⟩, ha.pos hl h4, fun e => ⟨ht.pos hl (h5 e).1, ?_⟩, fun e => ⟨hs.pos hl (h6 e).1, ?_⟩, g1, ha.i64 hl g2, ht.i64 hl g3, hs.i64 hl g4⟩
 · exact Int.lt_of_le_of_lt l1 (h5 e).2
 · exact Int.lt_of_le_of_lt l2 (h6 e).2
theorem PreB.to {R u v nb : Int} (hl : Less R u v) {b b' : Blk} (h : BlkTo u v b b') (hp : PreB nb b) : PreB nb b' :=
 ⟨by rw [h.1.1]; exact hp.1, h.1.all (fun x x' h hx => PreI.to hl h hx) hp.2.1, PreE.to hl h.2 hp.2.2⟩
def fld (i : Ins) : Nat → Option Int
 | 0 => some i.2.2.1
 | 1 => some i.2.2.2.1
 | 2 => some i.2.2.2.2.1
 | f + 3 => i.2.2.2.2.2.2[f]?
def valB (x : Blk) (k f : Nat) : Option Int := if k = x.1.length then (if f = 0 then some x.2.2.1 else none) else x.1[k]?.bind fun i => fld i f
def val (l : List Blk) (b k f : Nat) : Option Int := l[b]?.bind fun x => valB x k f
theorem fld_to {u v : Int} {i i' : Ins} (h : InsTo u v i i') {f : Nat} {x' : Int} (hx : fld i' f = some x') : ∃ x, fld i f = some x ∧ To u v x x' := by
 obtain ⟨h1, h2, h3, h4, h5, h6, h7⟩ := h
 match f, hx with
 | 0, hx => exact ⟨_, rfl, by injection hx with e; rw [← e]; exact h3⟩
 | 1, hx => exact ⟨_, rfl, by injection hx with e; rw [← e]; exact h4⟩
 | 2, hx => exact ⟨_, rfl, by injection hx with e; rw [← e]; exact h5⟩
 | f + 3, hx => exact h7.back hx
theorem valB_to {u v : Int} {b b' : Blk} (h : BlkTo u v b b') {k f : Nat} {x' : Int} (hx : valB b' k f = some x') : ∃ x, valB b k f = some x ∧ To u v x x' := by
 unfold valB at hx ⊢
 rw [h.1.1] at hx
 split
 · rename_i hk
   rw [if_pos hk] at hx
   split
   · rename_i hf
     rw [if_pos hf] at hx
     injection hx with e
     exact ⟨_, rfl, by rw [← e]; exact h.2.2.1⟩
   · rename_i hf
     rw [if_neg hf] at hx
     exact absurd hx (by simp)
 · rename_i hk
   rw [if_neg hk] at hx
   obtain ⟨i', hi', hf⟩ := Option.bind_eq_some_iff.1 hx
   obtain ⟨i, hi, hr⟩ := h.1.back hi'
   obtain ⟨x, e1, e2⟩ := fld_to hr hf
   exact ⟨x, by rw [hi]; exact e1, e2⟩
theorem val_to {u v : Int} {l l' : List Blk} (h : RowTo (BlkTo u v) l l') {b k f : Nat} {x' : Int} (hx : val l' b k f = some x') : ∃ x, val l b k f = some x ∧ To u v x x' := by
 obtain ⟨y', hy', hf⟩ := Option.bind_eq_some_iff.1 hx
 obtain ⟨y, hy, hr⟩ := h.back hy'
 obtain ⟨x, e1, e2⟩ := valB_to hr hf
 exact ⟨x, by unfold val; rw [hy]; exact e1, e2⟩
def UpTo (R : Int) (l : List Blk) (b k f : Nat) : Prop := ∀ b' k' f' x, (b' < b ∨ (b' = b ∧ (k' < k ∨ (k' = k ∧ f' < f)))) → val l b' k' f' = some x → 0 ≤ x ∧ x < R
theorem UpTo.step {R u v : Int} {l l' : List Blk} {b k f : Nat} (h : UpTo R l b k f) (hl : Less R u v) (ht : RowTo (BlkTo u v) l l') (hv : val l' b k f = some v) : UpTo R l' b k (f + 1) := by
 intro b' k' f' x' hp hx
 by_cases he : b' = b ∧ k' = k ∧ f' = f
 · obtain ⟨rfl, rfl, rfl⟩ := he
   rw [hv] at hx
   injection hx with e
   rw [← e]
   exact ⟨hl.1, hl.2.2.1⟩
 · obtain ⟨x, h1, h2⟩ := val_to ht hx
   exact h2.fin hl (h b' k' f' x (by omega) h1)
theorem UpTo.ins {R : Int} {l : List Blk} {b k : Nat} {x : Blk} {i : Ins} (hb : l[b]? = some x) (hk : x.1[k]? = some i) (h : UpTo R l b k (3 + i.2.2.2.2.2.2.length)) : UpTo R l b (k + 1) 0 := by
 intro b' k' f' y hp hx
 by_cases he : b' = b ∧ k' = k ∧ 3 + i.2.2.2.2.2.2.length ≤ f'
 · obtain ⟨rfl, rfl, hf⟩ := he
   exfalso
   have hlt := (List.getElem?_eq_some_iff.1 hk).1
   unfold val valB at hx
   rw [hb] at hx
   simp only [Option.bind_some] at hx
   rw [if_neg (by omega), hk] at hx
   obtain ⟨f, rfl⟩ : ∃ f, f' = f + 3 := ⟨f' - 3, by omega⟩
   have hx : i.2.2.2.2.2.2[f]? = some y := hx
   have := (List.getElem?_eq_some_iff.1 hx).1
   omega
 · exact h b' k' f' y (by omega) hx
theorem UpTo.blk {R : Int} {l : List Blk} {b : Nat} {x : Blk} (hb : l[b]? = some x) (h : UpTo R l b x.1.length 1) : UpTo R l (b + 1) 0 0 := by
 intro b' k' f' y hp hx
 by_cases he : b' = b ∧ (x.1.length < k' ∨ (k' = x.1.length ∧ 1 ≤ f'))
 · obtain ⟨rfl, hk⟩ := he
   exfalso
   unfold val valB at hx
   rw [hb] at hx
   simp only [Option.bind_some] at hx
   rcases hk with hk | ⟨rfl, hf⟩
   · rw [if_neg (by omega), List.getElem?_eq_none (by omega)] at hx
     exact absurd hx (by simp)
   · rw [if_pos rfl, if_neg (by omega)] at hx
     exact absurd hx (by simp)
 · exact h b' k' f' y (by omega) hx
def FinI (R : Int) (i : Ins) : Prop := (0 ≤ i.2.2.1 ∧ i.2.2.1 < R) ∧ (0 ≤ i.2.2.2.1 ∧ i.2.2.2.1 < R) ∧ (0 ≤ i.2.2.2.2.1 ∧ i.2.2.2.2.1 < R) ∧ ∀ x ∈ i.2.2.2.2.2.2, 0 ≤ x ∧ x < R
theorem UpTo.all {R : Int} {l : List Blk} (h : UpTo R l l.length 0 0) : ∀ x ∈ l, (∀ i ∈ x.1, FinI R i) ∧ (0 ≤ x.2.2.1 ∧ x.2.2.1 < R) := by
 intro x hx
 obtain ⟨b, hb⟩ := List.getElem?_of_mem hx
 have hlt := (List.getElem?_eq_some_iff.1 hb).1
 have hv : ∀ k f y, valB x k f = some y → 0 ≤ y ∧ y < R := fun k f y e => h b k f y (.inl hlt) (by unfold val; rw [hb]; exact e)
 refine ⟨fun i hi => ?_, hv x.1.length 0 _ (by unfold valB; rw [if_pos rfl, if_pos rfl])⟩
 obtain ⟨k, hk⟩ := List.getElem?_of_mem hi
 have hkl := (List.getElem?_eq_some_iff.1 hk).1
 have hf : ∀ f y, fld i f = some y → 0 ≤ y ∧ y < R := fun f y e => hv k f y (by unfold valB; rw [if_neg (by omega), hk]; exact e)
 refine ⟨hf 0 _ rfl, hf 1 _ rfl, hf 2 _ rfl, fun y hy => ?_⟩
 obtain ⟨a, ha⟩ := List.getElem?_of_mem hy
 exact hf (a + 3) y ha
theorem all_zero {l : List Int} (h : ∀ x ∈ l, x = 0) : firstN l = 0 := by
 induction l with
 | nil => rfl
 | cons x l ih => rw [firstN, if_pos (h x (by simp))]; exact ih (fun y hy => h y (by simp [hy]))
def CodI (R S : Int) (i : Ins) : Prop := insErr R S i = 0 ∧ InsR i
def CodB (R S : Int) (nb m : Nat) (b : Blk) : Prop := b.1.length ≤ m ∧ (∀ i ∈ b.1, CodI R S i) ∧ EndR b.2 ∧ endErr R nb 23 b.2 = 0
theorem cod_ins {R S : Int} (hS : 0 ≤ S) {i : Ins} (hp : PreI i) (hf : FinI R i) : CodI R S i := by
 obtain ⟨k, op, d, a, b, n, args⟩ := i
 obtain ⟨h1, h2, h3, h4, h5, h6, h7⟩ := hp
 obtain ⟨f1, f2, f3, f4⟩ := hf
 simp only at *
 refine ⟨?_, h7⟩
 unfold insErr
 simp only
 rw [if_neg (show ¬ S < 0 by omega), if_neg (show ¬ S < 0 by omega), if_neg, if_neg (by omega), if_neg, if_neg (by omega)]
 · rw [Bool.not_eq_true, List.any_eq_false]
   intro x hx
   have hx2 : 0 ≤ x ∧ x < R := by
    unfold allL at hx
    rcases List.mem_append.1 hx with hx | hx
    · unfold usesL at hx
      simp only at hx
      split at hx
      · simp only [List.mem_singleton] at hx; rw [hx]; exact f2
      · split at hx
        · simp only [List.mem_cons, List.not_mem_nil, or_false] at hx
          rcases hx with rfl | rfl
          · exact f2
          · exact f3
        · split at hx
          · exact f4 x hx
          · exact absurd hx (by simp)
    · split at hx
      · simp only [List.mem_singleton] at hx; rw [hx]; exact f1
      · exact absurd hx (by simp)
   unfold outB
   rw [decide_eq_true_iff]
   omega
 · rw [h2]
   intro h
   rcases h with h | h | h | ⟨e, h⟩
   · omega
   · omega
   · exact absurd h (by simp)
   · have := h3 e; omega
theorem cod_end {R nb : Int} {e : IEnd} (hp : PreE nb e) (hf : 0 ≤ e.2.1 ∧ e.2.1 < R) : EndR e ∧ endErr R nb 23 e = 0 := by
 obtain ⟨k, a, t, s⟩ := e
 obtain ⟨h1, h2, h3, h4, h5, h6, h7⟩ := hp
 simp only at *
 refine ⟨h7, ?_⟩
 unfold endErr
 simp only
 rw [if_neg, if_neg (by omega), if_neg, if_neg]
 · intro ⟨e, h⟩; have := h6 e; omega
 · intro ⟨e, h⟩; have := h5 e; omega
 · intro h
   rcases h with h | h | ⟨e, h⟩ | ⟨e, h⟩
   · omega
   · omega
   · have := h2 e; omega
   · have := h3 e; omega
theorem cod_code {p R S : Int} {n : Nat} {l : List Blk} (hp : 0 ≤ p ∧ p ≤ 4) (hR : 3 ≤ R ∧ R ≤ 8) (hS : p ≤ S ∧ S ≤ 64) (hn : l.length = n) (hn1 : 1 ≤ n ∧ n ≤ 16) (h : ∀ b ∈ l, CodB R S n 400 b) : codeErr (p, R, S, l) = 0 ∧ ∀ b ∈ l, BlkR b := by
 refine ⟨?_, fun b hb => ⟨fun i hi => ((h b hb).2.1 i hi).2, (h b hb).2.2.1⟩⟩
 subst hn
 unfold codeErr
 simp only
 rw [if_neg (by omega)]
 refine all_zero fun x hx => ?_
 obtain ⟨b, hb, rfl⟩ := List.mem_map.1 hx
 obtain ⟨h1, h2, h3, h4⟩ := h b hb
 unfold blkErr
 rw [if_neg (by omega), if_neg (show ¬ S < 0 by omega)]
 refine all_zero fun y hy => ?_
 rcases List.mem_append.1 hy with h5 | h5
 · obtain ⟨i, hi, rfl⟩ := List.mem_map.1 h5
   exact (h2 i hi).1
 · rw [List.mem_singleton] at h5
   rw [h5]
   exact h4
end Go.Proofs.Ytnckonglodmfeaa.Ik
namespace Go.Proofs.Ytnckonglodmfeaa.Ik
open Go.RowKit Go.Proofs.YtnckonglodmfeaaW.PrintWords Go.Proofs.YtnckonglodmfeaaW.PrintLast Go.Proofs.YtnckonglodmfeaaW.PrintMore B R S Is
theorem chunk_far {l : List Value} {v : Value} {j j' s : Nat} (h : j' ≠ j) (hs : 0 < s) : ((l.set (j * s) v).drop (j' * s)).take s = (l.drop (j' * s)).take s := by
 apply List.ext_getElem?
 intro i
 rw [List.getElem?_take, List.getElem?_take]
 split
 · rename_i hi
   rw [List.getElem?_drop, List.getElem?_drop, List.getElem?_set]
   rw [if_neg]
   intro e
   rcases Nat.lt_or_gt_of_ne h with h | h
   · have : (j' + 1) * s ≤ j * s := Nat.mul_le_mul_right _ h
     rw [Nat.add_mul] at this
     omega
   · have : (j + 1) * s ≤ j' * s := Nat.mul_le_mul_right _ h
     rw [Nat.add_mul] at this
     omega
 · rfl
theorem chunk_same {l c : List Value} {u v : Value} {j s : Nat} (h : (l.drop (j * s)).take s = u :: c) : ((l.set (j * s) v).drop (j * s)).take s = v :: c := by
 have hlen := congrArg List.length h
 rw [List.length_take, List.length_drop, List.length_cons] at hlen
 apply List.ext_getElem?
 intro i
 have hi0 := congrArg (fun x => x[i]?) h
 simp only [List.getElem?_take, List.getElem?_drop] at hi0
 rw [List.getElem?_take]
 rcases i with _ | i
 · rw [if_pos (by omega), List.getElem?_drop, List.getElem?_set, Nat.add_zero, if_pos rfl, if_pos (by omega)]
   rfl
 · by_cases hs : i + 1 < s
   · rw [if_pos hs] at hi0 ⊢
     rw [List.getElem?_drop, List.getElem?_set, if_neg (by omega)]
     exact hi0
   · rw [if_neg hs] at hi0 ⊢
     exact hi0
theorem blk_ins_set {e : Nat} {w : World} {base : Nat} {ok : Nat → Prop} {g n cap : Nat} {l : List Blk} (h : kBlk.R e w base ok (.slice (some ⟨g, 0, none⟩) n cap) l) {j : Nat} {b : Blk} (hj : l[j]? = some b) {vi : Value} {is : List Ins} (hi : kIns.R 92 w base (fun k => ok k ∧ k ≠ g) vi is) :
 kBlk.R e (w.setCell ⟨g, j * 5, none⟩ vi) base ok (.slice (some ⟨g, 0, none⟩) n cap) (l.set j (is, b.2)) := by
 obtain ⟨h0, inner, ⟨hl, ho⟩, hr1, hr2⟩ := h
 have h5 : kBlk.sz = 5 := rfl
 have hfar : ∀ (k : Nat), (ok k ∧ some k ≠ (Value.slice (some ⟨g, 0, none⟩) n cap).ownBlock) → k ≠ g := fun k hk e => hk.2 (by rw [e]; rfl)
 refine ⟨h0, inner.set (j * 5) vi, ⟨by rw [List.length_set, List.length_set]; exact hl, ?_⟩, by rw [List.length_set, List.length_set]; exact hr1, fun j' p hp => ?_⟩
 · rcases ho with ⟨ho, -⟩ | ⟨g', cap', cur, ho, hg, hh, h1, h2, h3, h4⟩
   · exact absurd ho (by simp)
   · injection ho with e1 e2 e3
     injection e1 with e1
     injection e1 with e1
     subst e1 e3
     refine .inr ⟨g, cap, cur.setIfInBounds (j * 5) vi, by rw [List.length_set, e2], hg, heap_setCell_same w g (j * 5) cur _ _ hh, by rw [List.length_set]; exact h1, h2, by rw [Array.size_setIfInBounds]; exact h3, ?_⟩
     rw [List.length_set, ← h4, Array.toList_setIfInBounds, List.take_set]
 · by_cases hjj : j' = j
   · subst hjj
     have hlt := (List.getElem?_eq_some_iff.1 hj).1
     rw [List.getElem?_set, if_pos rfl, if_pos hlt, Option.some.injEq] at hp
     subst hp
     obtain ⟨c0, c1, hc, ⟨u, rfl, -⟩, hE⟩ := hr2 j' b hj
     have hc' : (inner.drop (j' * 5)).take 5 = u :: c1 := hc
     refine ⟨[vi], c1, chunk_same hc', ⟨vi, rfl, ?_⟩, Kd.M_far hE (fun k hk => hfar k hk) vi⟩
     exact Kd.R_mono (Kd.R_far hi (fun k hk => hk.2) vi) (fun k hk => ⟨hk.1, fun e => hk.2 (by injection e)⟩)
   · rw [List.getElem?_set, if_neg (fun e => hjj e.symm)] at hp
     have hM := hr2 j' p hp
     have hM2 := Kd.M_far (p := ⟨g, j * 5, none⟩) hM (fun k hk => hfar k hk) vi
     show kBlk.M _ _ _ _ (((inner.set (j * 5) vi).drop (j' * 5)).take 5)
     rw [chunk_far hjj (by decide)]
     exact hM2
end Go.Proofs.Ytnckonglodmfeaa.Ik
