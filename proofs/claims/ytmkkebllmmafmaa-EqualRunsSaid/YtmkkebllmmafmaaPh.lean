/- Has, Within, Meet of pairs. -/
import Derived.Test.YtmkkebllmmafmaaPg
namespace Go.Proofs.Ytmkkebllmmafmaa.Ph
open Go.Sort Go.RowKit Go.Proofs.YtmkkebllmmafmaaW.PrintWords Go.Proofs.YtmkkebllmmafmaaW.PrintLast Go.Proofs.YtmkkebllmmafmaaW.PrintMore Go.Proofs.Ytmkkebllmmafmaa.B Go.Proofs.Ytmkkebllmmafmaa.Ps Go.Proofs.Ytmkkebllmmafmaa.R Go.Proofs.Ytmkkebllmmafmaa.Pk Go.Proofs.Ytmkkebllmmafmaa.Pa Go.Proofs.Ytmkkebllmmafmaa.Pm Go.Proofs.Ytmkkebllmmafmaa.Pw Go.Proofs.Ytmkkebllmmafmaa.Pd Go.Proofs.Ytmkkebllmmafmaa.Pg Go.Proofs.Ytmkkebllmmafmaa.S
set_option linter.unusedVariables false
set_option linter.unusedSimpArgs false
theorem search_mem {l : List Pr} (hr : Rise l) {i : Nat} {q : Pr} (h1 : ∀ t p, t < i → l[t]? = some p → lt p q) (h2 : ∀ t p, i ≤ t → l[t]? = some p → ¬ lt p q) : q ∈ l ↔ l[i]? = some q := by
  constructor
  · intro hq
    obtain ⟨t, ht⟩ := List.getElem?_of_mem hq
    rcases Nat.lt_or_ge t i with h | h
    · exact absurd (h1 t q h ht) (lt_irrefl q)
    · rcases Nat.lt_or_ge i t with h3 | h3
      · have hi : i < l.length := by have := (List.getElem?_eq_some_iff.1 ht).1; omega
        exact absurd (hr.at h3 (List.getElem?_eq_getElem hi) ht) (h2 i _ (Nat.le_refl _) (List.getElem?_eq_getElem hi))
      · have e : t = i := by omega
        rw [← e]; exact ht
  · exact List.mem_of_getElem?
set_option maxHeartbeats 600000 in
set_option maxRecDepth 100000 in
theorem search_calls (A : Option Addr) (n c : Nat) (l : List Pr) (hn : l.length = n) (q : Pr) (b : Bool) (hb : b = true ↔ q ∈ l) (w : World) (hC : kP.C w A n l) (hr : Rise l) (hl : n ≤ 1000) :
    Calls Try.prog 39 #[.slice A n c, .agg #[.int .i64 q.1, .int .i64 q.2], .func (.func 30) #[] #[]] w fun e w' => ∃ i : Int, e = .returned (.tuple #[.int .i64 i, .bool b]) ∧ Below w.heap.size w w' := by
  have HC := Aside0.mk hC
  have HN := Aside0.mk hn
  have HRI := Aside0.mk hr
  have HBB := Aside0.mk hb
  have mixed : Try.prog.follows .mixedOrders = true := by kernel_rfl
  obtain ⟨W, hW⟩ : ∃ W, W = w.alloc (.cells #[.int .i64 q.1, .int .i64 q.2] 25) := ⟨_, rfl⟩
  have hal : Below w.heap.size w W := by rw [hW]; exact (Below.refl _ _).alloc (Nat.le_refl _) _
  have hws : W.heap.size = w.heap.size + 1 := by rw [hW, World.size_alloc]
  have hnew : W.heap[w.heap.size]? = some (.cells #[.int .i64 q.1, .int .i64 q.2] 25 (0, 0)) := by rw [hW]; exact heap_alloc_new _ _
  have HAL := Aside0.mk hal
  have HT := Aside0.mk (show ∀ W2, Below W.heap.size W W2 → W2.cell? ⟨w.heap.size, 0, none⟩ = some (.int .i64 q.1) ∧ W2.cell? ⟨w.heap.size, 1, none⟩ = some (.int .i64 q.2) from fun W2 h => by
    have h2 := (h.block w.heap.size (by omega)).trans hnew
    exact ⟨by simp [World.cell?, h2], by simp [World.cell?, h2]⟩)
  have HB0 := Aside0.mk (Below.refl W.heap.size W)
  clear hC hn hr hb hal hws hnew
  go_enter Try.func39, Try.ntmps39
  go_wp2_with fail
  rw [← hW]
  clear hW
  go_loopw [9, 10] (fun va vb wr => ∃ lo hi : Nat, va = .int .i64 lo ∧ vb = .int .i64 hi ∧ lo ≤ hi ∧ hi ≤ n ∧ Aside0 (Below W.heap.size W wr) ∧ Aside0 ((∀ t p, t < lo → l[t]? = some p → lt p q) ∧ (∀ t p, hi ≤ t → l[t]? = some p → ¬ lt p q))) (fun va vb _ => (intOf vb).toNat - (intOf va).toNat)
  case atStart => exact ⟨0, n, rfl, rfl, by omega, by omega, HB0, ⟨fun t p ht => absurd ht (by omega), fun t p ht hp => absurd (List.getElem?_eq_some_iff.1 hp).1 (by rw [HN.out]; omega)⟩⟩
  case round =>
    clear HB0
    obtain ⟨lo, hi, rfl, rfl, hlh, hin, HB, HI⟩ := hrel
    by_cases hlt : lo < hi
    · obtain ⟨md, hmd⟩ : ∃ md, md = (lo + hi) / 2 := ⟨_, rfl⟩
      obtain ⟨p, hp⟩ : ∃ p, l[md]? = some p := ⟨_, List.getElem?_eq_getElem (by rw [HN.out]; omega)⟩
      obtain ⟨ad, rfl, h0, h1⟩ := P_get (Kd.C_below (Kd.C_below HC.out HAL.out) HB.out) hp
      obtain ⟨t0, t1⟩ := HT.out wr HB.out
      have HF := Aside0.mk (show ∀ W2, Fut wr.drew W2 → W2.cell? (ad.add (md * 2)) = some (.int .i64 p.1) ∧ W2.cell? ⟨(ad.add (md * 2)).block, (ad.add (md * 2)).off + 1, none⟩ = some (.int .i64 p.2) ∧ W2.cell? ⟨w.heap.size, 0, none⟩ = some (.int .i64 q.1) ∧ W2.cell? ⟨w.heap.size, 1, none⟩ = some (.int .i64 q.2) from fun W2 hW => by
        have hh : Below wr.heap.size wr W2 := (Below.refl _ _).drew.trans hW
        exact ⟨pw_cell_below hh h0, pw_cell_below hh h1, pw_cell_below hh t0, pw_cell_below hh t1⟩)
      have hoc := order_calls p q wr.drew
      have HP := Aside0.mk hp
      clear h0 h1 t0 t1 hp
      obtain ⟨r, hr⟩ : ∃ r, r = cf p q := ⟨_, rfl⟩
      rw [← hr] at hoc
      have hmn : md < n := by omega
      have hml1 : lo ≤ md := by omega
      have hml2 : md < hi := by omega
      go_upto_region 5 with fail
      have hmc : ((lo : Int) + hi) / 2 = (md : Int) := by omega
      rw [hmc]
      clear hmc hmd
      by_cases hr0 : r < 0
      · have d0 : decide (r < 0) = true := decide_eq_true hr0
        have HLT := Aside0.mk (show lt p q from (cf_neg p q).1 (by rw [← hr]; exact hr0))
        clear hr hr0
        refine rg_start (by kernel_rfl) (n := 8) (l := #[false, false, false, false, false, false, false, false]) (by kernel_rfl) (by kernel_rfl) ?_
        refine rg_take (fuel := 7) 0 rfl (by kernel_rfl) (listed' := #[true, false, false, false, false, false, false, false]) (by kernel_rfl) (fun _ _ _ h => h) (by kernel_rfl) (fun w' hR => by obtain ⟨x0, x1, x2, x3⟩ := HF.out w' hR; go_simp; first | done | with_reducible rfl) rfl ?_
        try simp only [Act.put, List.setIfInBounds_toArray, List.set_cons_zero, List.set_cons_succ]
        refine rg_take (fuel := 6) 1 rfl (by kernel_rfl) (listed' := #[true, true, false, false, false, false, false, false]) (by kernel_rfl) (fun _ _ _ h => h) (by kernel_rfl) (fun w' hR => by obtain ⟨x0, x1, x2, x3⟩ := HF.out w' hR; go_simp; first | done | with_reducible rfl) rfl ?_
        try simp only [Act.put, List.setIfInBounds_toArray, List.set_cons_zero, List.set_cons_succ]
        refine rg_take (fuel := 5) 2 rfl (by kernel_rfl) (listed' := #[true, true, true, false, false, false, false, false]) (by kernel_rfl) (fun _ _ _ h => h) (by kernel_rfl) (fun w' hR => by obtain ⟨x0, x1, x2, x3⟩ := HF.out w' hR; go_simp; first | done | with_reducible rfl) rfl ?_
        try simp only [Act.put, List.setIfInBounds_toArray, List.set_cons_zero, List.set_cons_succ]
        refine rg_take (fuel := 4) 3 rfl (by kernel_rfl) (listed' := #[true, true, true, true, false, false, false, false]) (by kernel_rfl) (fun _ _ _ h => h) (by kernel_rfl) (fun w' hR => by obtain ⟨x0, x1, x2, x3⟩ := HF.out w' hR; go_simp; first | done | with_reducible rfl) rfl ?_
        try simp only [Act.put, List.setIfInBounds_toArray, List.set_cons_zero, List.set_cons_succ]
        refine rg_take (fuel := 3) 4 rfl (by kernel_rfl) (listed' := #[true, true, true, true, true, false, false, false]) (by kernel_rfl) (fun _ _ _ h => h) (by kernel_rfl) (fun w' hR => by obtain ⟨x0, x1, x2, x3⟩ := HF.out w' hR; go_simp; first | done | with_reducible rfl) rfl ?_
        try simp only [Act.put, List.setIfInBounds_toArray, List.set_cons_zero, List.set_cons_succ]
        refine rg_take (fuel := 2) 5 rfl (by kernel_rfl) (listed' := #[true, true, true, true, true, true, false, false]) (by kernel_rfl) (fun _ _ _ h => h) (by kernel_rfl) (fun w' hR => by obtain ⟨x0, x1, x2, x3⟩ := HF.out w' hR; go_simp; first | done | with_reducible rfl) rfl ?_
        try simp only [Act.put, List.setIfInBounds_toArray, List.set_cons_zero, List.set_cons_succ]
        refine rg_step (fuel := 1) 6 rfl (by kernel_rfl) (listed' := #[true, true, true, true, true, true, true, false]) (by kernel_rfl) (by kernel_rfl) (fun K' hK => ?_)
        (go_wp2_with fail); refine hoc.mono ?_; rintro e w2 ⟨rfl, nq, osq, rfl⟩; have HGW := Aside0.mk (belowG (Below.refl wr.drew.heap.size wr.drew) (Nat.le_refl _) nq osq); have HZ := Aside0.mk (belowG (Below.refl wr.heap.size wr).drew (Nat.le_refl _) nq osq); generalize grow (wr.drew.drewN nq) osq = WZ at *
        refine hK.out _ _ HGW.out ?_
        clear hK K'
        try simp only [Act.put, List.setIfInBounds_toArray, List.set_cons_zero, List.set_cons_succ]
        refine rg_take (fuel := 0) 7 rfl (by kernel_rfl) (listed' := #[true, true, true, true, true, true, true, true]) (by kernel_rfl) (fun _ _ _ h => h) (by kernel_rfl) (fun w' hR => by skip; go_simp; first | done | with_reducible rfl) rfl ?_
        try simp only [Act.put, List.setIfInBounds_toArray, List.set_cons_zero, List.set_cons_succ]
        refine rg_done (by kernel_rfl) ?_
        go_wp2
        go_roundw
        case rel => exact ⟨md + 1, hi, by go_num, rfl, by omega, hin, ⟨HB.out.trans (HZ.out.mono HB.out.size)⟩, ⟨fun t p' ht hp' => by
          rcases Nat.lt_or_ge t md with h | h
          · exact lt_trans (HRI.out.at h hp' HP.out) HLT.out
          · have e : t = md := by omega
            subst e
            rw [HP.out] at hp'
            obtain rfl := Option.some.inj hp'
            exact HLT.out, HI.out.2⟩⟩
        case measure => simp [intOf]; omega
      · have d0 : decide (r < 0) = false := decide_eq_false hr0
        have HLT := Aside0.mk (show ¬ lt p q from (cf_ge p q).1 (by rw [← hr]; omega))
        clear hr hr0
        refine rg_start (by kernel_rfl) (n := 8) (l := #[false, false, false, false, false, false, false, false]) (by kernel_rfl) (by kernel_rfl) ?_
        refine rg_take (fuel := 7) 0 rfl (by kernel_rfl) (listed' := #[true, false, false, false, false, false, false, false]) (by kernel_rfl) (fun _ _ _ h => h) (by kernel_rfl) (fun w' hR => by obtain ⟨x0, x1, x2, x3⟩ := HF.out w' hR; go_simp; first | done | with_reducible rfl) rfl ?_
        try simp only [Act.put, List.setIfInBounds_toArray, List.set_cons_zero, List.set_cons_succ]
        refine rg_take (fuel := 6) 1 rfl (by kernel_rfl) (listed' := #[true, true, false, false, false, false, false, false]) (by kernel_rfl) (fun _ _ _ h => h) (by kernel_rfl) (fun w' hR => by obtain ⟨x0, x1, x2, x3⟩ := HF.out w' hR; go_simp; first | done | with_reducible rfl) rfl ?_
        try simp only [Act.put, List.setIfInBounds_toArray, List.set_cons_zero, List.set_cons_succ]
        refine rg_take (fuel := 5) 2 rfl (by kernel_rfl) (listed' := #[true, true, true, false, false, false, false, false]) (by kernel_rfl) (fun _ _ _ h => h) (by kernel_rfl) (fun w' hR => by obtain ⟨x0, x1, x2, x3⟩ := HF.out w' hR; go_simp; first | done | with_reducible rfl) rfl ?_
        try simp only [Act.put, List.setIfInBounds_toArray, List.set_cons_zero, List.set_cons_succ]
        refine rg_take (fuel := 4) 3 rfl (by kernel_rfl) (listed' := #[true, true, true, true, false, false, false, false]) (by kernel_rfl) (fun _ _ _ h => h) (by kernel_rfl) (fun w' hR => by obtain ⟨x0, x1, x2, x3⟩ := HF.out w' hR; go_simp; first | done | with_reducible rfl) rfl ?_
        try simp only [Act.put, List.setIfInBounds_toArray, List.set_cons_zero, List.set_cons_succ]
        refine rg_take (fuel := 3) 4 rfl (by kernel_rfl) (listed' := #[true, true, true, true, true, false, false, false]) (by kernel_rfl) (fun _ _ _ h => h) (by kernel_rfl) (fun w' hR => by obtain ⟨x0, x1, x2, x3⟩ := HF.out w' hR; go_simp; first | done | with_reducible rfl) rfl ?_
        try simp only [Act.put, List.setIfInBounds_toArray, List.set_cons_zero, List.set_cons_succ]
        refine rg_take (fuel := 2) 5 rfl (by kernel_rfl) (listed' := #[true, true, true, true, true, true, false, false]) (by kernel_rfl) (fun _ _ _ h => h) (by kernel_rfl) (fun w' hR => by obtain ⟨x0, x1, x2, x3⟩ := HF.out w' hR; go_simp; first | done | with_reducible rfl) rfl ?_
        try simp only [Act.put, List.setIfInBounds_toArray, List.set_cons_zero, List.set_cons_succ]
        refine rg_step (fuel := 1) 6 rfl (by kernel_rfl) (listed' := #[true, true, true, true, true, true, true, false]) (by kernel_rfl) (by kernel_rfl) (fun K' hK => ?_)
        (go_wp2_with fail); refine hoc.mono ?_; rintro e w2 ⟨rfl, nq, osq, rfl⟩; have HGW := Aside0.mk (belowG (Below.refl wr.drew.heap.size wr.drew) (Nat.le_refl _) nq osq); have HZ := Aside0.mk (belowG (Below.refl wr.heap.size wr).drew (Nat.le_refl _) nq osq); generalize grow (wr.drew.drewN nq) osq = WZ at *
        refine hK.out _ _ HGW.out ?_
        clear hK K'
        try simp only [Act.put, List.setIfInBounds_toArray, List.set_cons_zero, List.set_cons_succ]
        refine rg_take (fuel := 0) 7 rfl (by kernel_rfl) (listed' := #[true, true, true, true, true, true, true, true]) (by kernel_rfl) (fun _ _ _ h => h) (by kernel_rfl) (fun w' hR => by skip; go_simp; first | done | with_reducible rfl) rfl ?_
        try simp only [Act.put, List.setIfInBounds_toArray, List.set_cons_zero, List.set_cons_succ]
        refine rg_done (by kernel_rfl) ?_
        go_wp2
        go_roundw
        case rel => exact ⟨lo, md, rfl, rfl, by omega, by omega, ⟨HB.out.trans (HZ.out.mono HB.out.size)⟩, ⟨HI.out.1, fun t p' ht hp' => by
          rcases Nat.lt_or_ge md t with h | h
          · exact fun h9 => HLT.out (lt_trans (HRI.out.at h HP.out hp') h9)
          · have e : t = md := by omega
            subst e
            rw [HP.out] at hp'
            obtain rfl := Option.some.inj hp'
            exact HLT.out⟩⟩
        case measure => simp [intOf]; omega
    · obtain rfl : hi = lo := by omega
      have HMEM := Aside0.mk (search_mem HRI.out HI.out.1 HI.out.2)
      by_cases hgo : hi < n
      · obtain ⟨p, hp⟩ : ∃ p, l[hi]? = some p := ⟨_, List.getElem?_eq_getElem (by rw [HN.out]; omega)⟩
        obtain ⟨ad, rfl, h0, h1⟩ := P_get (Kd.C_below (Kd.C_below HC.out HAL.out) HB.out) hp
        obtain ⟨t0, t1⟩ := HT.out wr HB.out
        have HF := Aside0.mk (show ∀ W2, Fut wr.drew W2 → W2.cell? (ad.add (hi * 2)) = some (.int .i64 p.1) ∧ W2.cell? ⟨(ad.add (hi * 2)).block, (ad.add (hi * 2)).off + 1, none⟩ = some (.int .i64 p.2) ∧ W2.cell? ⟨w.heap.size, 0, none⟩ = some (.int .i64 q.1) ∧ W2.cell? ⟨w.heap.size, 1, none⟩ = some (.int .i64 q.2) from fun W2 hW => by
          have hh : Below wr.heap.size wr W2 := (Below.refl _ _).drew.trans hW
          exact ⟨pw_cell_below hh h0, pw_cell_below hh h1, pw_cell_below hh t0, pw_cell_below hh t1⟩)
        have hoc := order_calls p q wr.drew
        obtain ⟨r, hr⟩ : ∃ r, r = cf p q := ⟨_, rfl⟩
        rw [← hr] at hoc
        have hd8 : decide ((hi : Int) < n) = true := decide_eq_true (by omega)
        have hbr : (r == 0) = b := by
          rw [Bool.eq_iff_iff, HBB.out, HMEM.out, hp, beq_iff_eq, hr, cf_zero]
          constructor
          · rintro rfl; rfl
          · exact fun h => Option.some.inj h
        clear h0 h1 t0 t1 hp hr
        go_wp2_with fail
        refine rg_start (by kernel_rfl) (n := 16) (l := #[false, false, false, false, false, false, false, false, false, false, false, false, false, false, false, false]) (by kernel_rfl) (by kernel_rfl) ?_
        refine rg_take (fuel := 15) 0 rfl (by kernel_rfl) (listed' := #[true, false, false, false, false, false, false, false, false, false, false, false, false, false, false, false]) (by kernel_rfl) (fun _ _ _ h => h) (by kernel_rfl) (fun w' hR => by obtain ⟨x0, x1, x2, x3⟩ := HF.out w' hR; go_simp; first | done | with_reducible rfl) rfl ?_
        try simp only [Act.put, List.setIfInBounds_toArray, List.set_cons_zero, List.set_cons_succ]
        refine rg_take (fuel := 14) 1 rfl (by kernel_rfl) (listed' := #[true, true, false, false, false, false, false, false, false, false, false, false, false, false, false, false]) (by kernel_rfl) (fun _ _ _ h => h) (by kernel_rfl) (fun w' hR => by obtain ⟨x0, x1, x2, x3⟩ := HF.out w' hR; go_simp; first | done | with_reducible rfl) rfl ?_
        try simp only [Act.put, List.setIfInBounds_toArray, List.set_cons_zero, List.set_cons_succ]
        refine rg_take (fuel := 13) 2 rfl (by kernel_rfl) (listed' := #[true, true, true, false, false, false, false, false, false, false, false, false, false, false, false, false]) (by kernel_rfl) (fun _ _ _ h => h) (by kernel_rfl) (fun w' hR => by obtain ⟨x0, x1, x2, x3⟩ := HF.out w' hR; go_simp; first | done | with_reducible rfl) rfl ?_
        try simp only [Act.put, List.setIfInBounds_toArray, List.set_cons_zero, List.set_cons_succ]
        refine rg_take (fuel := 12) 3 rfl (by kernel_rfl) (listed' := #[true, true, true, true, false, false, false, false, false, false, false, false, false, false, false, false]) (by kernel_rfl) (fun _ _ _ h => h) (by kernel_rfl) (fun w' hR => by obtain ⟨x0, x1, x2, x3⟩ := HF.out w' hR; go_simp; first | done | with_reducible rfl) rfl ?_
        try simp only [Act.put, List.setIfInBounds_toArray, List.set_cons_zero, List.set_cons_succ]
        refine rg_take (fuel := 11) 4 rfl (by kernel_rfl) (listed' := #[true, true, true, true, true, false, false, false, false, false, false, false, false, false, false, false]) (by kernel_rfl) (fun _ _ _ h => h) (by kernel_rfl) (fun w' hR => by obtain ⟨x0, x1, x2, x3⟩ := HF.out w' hR; go_simp; first | done | with_reducible rfl) rfl ?_
        try simp only [Act.put, List.setIfInBounds_toArray, List.set_cons_zero, List.set_cons_succ]
        refine rg_take (fuel := 10) 5 rfl (by kernel_rfl) (listed' := #[true, true, true, true, true, true, false, false, false, false, false, false, false, false, false, false]) (by kernel_rfl) (fun _ _ _ h => h) (by kernel_rfl) (fun w' hR => by obtain ⟨x0, x1, x2, x3⟩ := HF.out w' hR; go_simp; first | done | with_reducible rfl) rfl ?_
        try simp only [Act.put, List.setIfInBounds_toArray, List.set_cons_zero, List.set_cons_succ]
        refine rg_take (fuel := 9) 6 rfl (by kernel_rfl) (listed' := #[true, true, true, true, true, true, true, false, false, false, false, false, false, false, false, false]) (by kernel_rfl) (fun _ _ _ h => h) (by kernel_rfl) (fun w' hR => by obtain ⟨x0, x1, x2, x3⟩ := HF.out w' hR; go_simp; first | done | with_reducible rfl) rfl ?_
        try simp only [Act.put, List.setIfInBounds_toArray, List.set_cons_zero, List.set_cons_succ]
        refine rg_take (fuel := 8) 7 rfl (by kernel_rfl) (listed' := #[true, true, true, true, true, true, true, true, false, false, false, false, false, false, false, false]) (by kernel_rfl) (fun _ _ _ h => h) (by kernel_rfl) (fun w' hR => by obtain ⟨x0, x1, x2, x3⟩ := HF.out w' hR; go_simp; first | done | with_reducible rfl) rfl ?_
        try simp only [Act.put, List.setIfInBounds_toArray, List.set_cons_zero, List.set_cons_succ]
        refine rg_take (fuel := 7) 8 rfl (by kernel_rfl) (listed' := #[true, true, true, true, true, true, true, true, true, false, false, false, false, false, false, false]) (by kernel_rfl) (fun _ _ _ h => h) (by kernel_rfl) (fun w' hR => by obtain ⟨x0, x1, x2, x3⟩ := HF.out w' hR; go_simp; first | done | with_reducible rfl) rfl ?_
        try simp only [Act.put, List.setIfInBounds_toArray, List.set_cons_zero, List.set_cons_succ]
        refine rg_take (fuel := 6) 9 rfl (by kernel_rfl) (listed' := #[true, true, true, true, true, true, true, true, true, true, false, false, false, false, false, false]) (by kernel_rfl) (fun _ _ _ h => h) (by kernel_rfl) (fun w' hR => by obtain ⟨x0, x1, x2, x3⟩ := HF.out w' hR; go_simp; first | done | with_reducible rfl) rfl ?_
        try simp only [Act.put, List.setIfInBounds_toArray, List.set_cons_zero, List.set_cons_succ]
        refine rg_take (fuel := 5) 10 rfl (by kernel_rfl) (listed' := #[true, true, true, true, true, true, true, true, true, true, true, false, false, false, false, false]) (by kernel_rfl) (fun _ _ _ h => h) (by kernel_rfl) (fun w' hR => by obtain ⟨x0, x1, x2, x3⟩ := HF.out w' hR; go_simp; first | done | with_reducible rfl) rfl ?_
        try simp only [Act.put, List.setIfInBounds_toArray, List.set_cons_zero, List.set_cons_succ]
        refine rg_step (fuel := 4) 11 rfl (by kernel_rfl) (listed' := #[true, true, true, true, true, true, true, true, true, true, true, true, false, false, false, false]) (by kernel_rfl) (by kernel_rfl) (fun K' hK => ?_)
        (go_wp2_with fail); refine hoc.mono ?_; rintro e w2 ⟨rfl, nq, osq, rfl⟩; have HGW := Aside0.mk (belowG (Below.refl wr.drew.heap.size wr.drew) (Nat.le_refl _) nq osq); have HZ := Aside0.mk (belowG (Below.refl wr.heap.size wr).drew (Nat.le_refl _) nq osq); generalize grow (wr.drew.drewN nq) osq = WZ at *
        refine hK.out _ _ HGW.out ?_
        clear hK K'
        try simp only [Act.put, List.setIfInBounds_toArray, List.set_cons_zero, List.set_cons_succ]
        refine rg_take (fuel := 3) 12 rfl (by kernel_rfl) (listed' := #[true, true, true, true, true, true, true, true, true, true, true, true, true, false, false, false]) (by kernel_rfl) (fun _ _ _ h => h) (by kernel_rfl) (fun w' hR => by skip; go_simp; first | done | with_reducible rfl) rfl ?_
        try simp only [Act.put, List.setIfInBounds_toArray, List.set_cons_zero, List.set_cons_succ]
        refine rg_take (fuel := 2) 13 rfl (by kernel_rfl) (listed' := #[true, true, true, true, true, true, true, true, true, true, true, true, true, true, false, false]) (by kernel_rfl) (fun _ _ _ h => h) (by kernel_rfl) (fun w' hR => by skip; go_simp; first | done | with_reducible rfl) rfl ?_
        try simp only [Act.put, List.setIfInBounds_toArray, List.set_cons_zero, List.set_cons_succ]
        refine rg_take (fuel := 1) 14 rfl (by kernel_rfl) (listed' := #[true, true, true, true, true, true, true, true, true, true, true, true, true, true, true, false]) (by kernel_rfl) (fun _ _ _ h => h) (by kernel_rfl) (fun w' hR => by skip; go_simp; first | done | with_reducible rfl) rfl ?_
        try simp only [Act.put, List.setIfInBounds_toArray, List.set_cons_zero, List.set_cons_succ]
        refine rg_take (fuel := 0) 15 rfl (by kernel_rfl) (listed' := #[true, true, true, true, true, true, true, true, true, true, true, true, true, true, true, true]) (by kernel_rfl) (fun _ _ _ h => h) (by kernel_rfl) (fun w' hR => by skip; go_simp; first | done | with_reducible rfl) rfl ?_
        try simp only [Act.put, List.setIfInBounds_toArray, List.set_cons_zero, List.set_cons_succ]
        refine rg_done (by kernel_rfl) ?_
        go_wp2
        go_ret2
        exact ⟨_, rfl, (HAL.out.trans (HB.out.mono HAL.out.size)).trans (HZ.out.mono (HAL.out.trans (HB.out.mono HAL.out.size)).size)⟩
      · have hbf : b = false := by
          rw [← Bool.not_eq_true, HBB.out, HMEM.out]
          intro h
          have := (List.getElem?_eq_some_iff.1 h).1
          rw [HN.out] at this
          omega
        have hd8 : decide ((hi : Int) < n) = false := decide_eq_false (by omega)
        have hd9 : decide (hi < n) = false := decide_eq_false (by omega)
        subst hbf
        go_wp2_with fail
        refine rg_start (by kernel_rfl) (n := 16) (l := #[false, false, false, false, false, false, false, false, false, false, false, false, false, false, false, false]) (by kernel_rfl) (by kernel_rfl) ?_
        refine rg_take (fuel := 15) 0 rfl (by kernel_rfl) (listed' := #[true, false, false, false, false, false, false, false, false, false, false, false, false, false, false, false]) (by kernel_rfl) (fun _ _ _ h => h) (by kernel_rfl) (fun w' hR => by skip; go_simp; first | done | with_reducible rfl) rfl ?_
        try simp only [Act.put, List.setIfInBounds_toArray, List.set_cons_zero, List.set_cons_succ]
        refine rg_take (fuel := 14) 1 rfl (by kernel_rfl) (listed' := #[true, true, false, false, false, false, false, false, false, false, false, false, false, false, false, false]) (by kernel_rfl) (fun _ _ _ h => h) (by kernel_rfl) (fun w' hR => by skip; go_simp; first | done | with_reducible rfl) rfl ?_
        try simp only [Act.put, List.setIfInBounds_toArray, List.set_cons_zero, List.set_cons_succ]
        refine rg_take (fuel := 13) 2 rfl (by kernel_rfl) (listed' := #[true, true, true, false, false, false, false, false, false, false, false, false, false, false, false, false]) (by kernel_rfl) (fun _ _ _ h => h) (by kernel_rfl) (fun w' hR => by skip; go_simp; first | done | with_reducible rfl) rfl ?_
        try simp only [Act.put, List.setIfInBounds_toArray, List.set_cons_zero, List.set_cons_succ]
        refine rg_take (fuel := 12) 3 rfl (by kernel_rfl) (listed' := #[true, true, true, true, false, false, false, false, false, false, false, false, false, false, false, false]) (by kernel_rfl) (fun _ _ _ h => h) (by kernel_rfl) (fun w' hR => by skip; go_simp; first | done | with_reducible rfl) rfl ?_
        try simp only [Act.put, List.setIfInBounds_toArray, List.set_cons_zero, List.set_cons_succ]
        refine rg_take (fuel := 11) 4 rfl (by kernel_rfl) (listed' := #[true, true, true, true, true, false, false, false, false, false, false, false, false, false, false, false]) (by kernel_rfl) (fun _ _ _ h => h) (by kernel_rfl) (fun w' hR => by skip; go_simp; first | done | with_reducible rfl) rfl ?_
        try simp only [Act.put, List.setIfInBounds_toArray, List.set_cons_zero, List.set_cons_succ]
        refine rg_skip (fuel := 10) 5 rfl (by kernel_rfl) (listed' := #[true, true, true, true, true, true, false, false, false, false, false, false, false, false, false, false]) (by kernel_rfl) (fun _ _ _ h => h) (by kernel_rfl) rfl ?_
        try simp only [Act.put, List.setIfInBounds_toArray, List.set_cons_zero, List.set_cons_succ]
        refine rg_skip (fuel := 9) 6 rfl (by kernel_rfl) (listed' := #[true, true, true, true, true, true, true, false, false, false, false, false, false, false, false, false]) (by kernel_rfl) (fun _ _ _ h => h) (by kernel_rfl) rfl ?_
        try simp only [Act.put, List.setIfInBounds_toArray, List.set_cons_zero, List.set_cons_succ]
        refine rg_skip (fuel := 8) 7 rfl (by kernel_rfl) (listed' := #[true, true, true, true, true, true, true, true, false, false, false, false, false, false, false, false]) (by kernel_rfl) (fun _ _ _ h => h) (by kernel_rfl) rfl ?_
        try simp only [Act.put, List.setIfInBounds_toArray, List.set_cons_zero, List.set_cons_succ]
        refine rg_skip (fuel := 7) 8 rfl (by kernel_rfl) (listed' := #[true, true, true, true, true, true, true, true, true, false, false, false, false, false, false, false]) (by kernel_rfl) (fun _ _ _ h => h) (by kernel_rfl) rfl ?_
        try simp only [Act.put, List.setIfInBounds_toArray, List.set_cons_zero, List.set_cons_succ]
        refine rg_skip (fuel := 6) 9 rfl (by kernel_rfl) (listed' := #[true, true, true, true, true, true, true, true, true, true, false, false, false, false, false, false]) (by kernel_rfl) (fun _ _ _ h => h) (by kernel_rfl) rfl ?_
        try simp only [Act.put, List.setIfInBounds_toArray, List.set_cons_zero, List.set_cons_succ]
        refine rg_skip (fuel := 5) 10 rfl (by kernel_rfl) (listed' := #[true, true, true, true, true, true, true, true, true, true, true, false, false, false, false, false]) (by kernel_rfl) (fun _ _ _ h => h) (by kernel_rfl) rfl ?_
        try simp only [Act.put, List.setIfInBounds_toArray, List.set_cons_zero, List.set_cons_succ]
        refine rg_skip (fuel := 4) 11 rfl (by kernel_rfl) (listed' := #[true, true, true, true, true, true, true, true, true, true, true, true, false, false, false, false]) (by kernel_rfl) (fun _ _ _ h => h) (by kernel_rfl) rfl ?_
        try simp only [Act.put, List.setIfInBounds_toArray, List.set_cons_zero, List.set_cons_succ]
        refine rg_skip (fuel := 3) 12 rfl (by kernel_rfl) (listed' := #[true, true, true, true, true, true, true, true, true, true, true, true, true, false, false, false]) (by kernel_rfl) (fun _ _ _ h => h) (by kernel_rfl) rfl ?_
        try simp only [Act.put, List.setIfInBounds_toArray, List.set_cons_zero, List.set_cons_succ]
        refine rg_take (fuel := 2) 13 rfl (by kernel_rfl) (listed' := #[true, true, true, true, true, true, true, true, true, true, true, true, true, true, false, false]) (by kernel_rfl) (fun _ _ _ h => h) (by kernel_rfl) (fun w' hR => by skip; go_simp; first | done | with_reducible rfl) rfl ?_
        try simp only [Act.put, List.setIfInBounds_toArray, List.set_cons_zero, List.set_cons_succ]
        refine rg_take (fuel := 1) 14 rfl (by kernel_rfl) (listed' := #[true, true, true, true, true, true, true, true, true, true, true, true, true, true, true, false]) (by kernel_rfl) (fun _ _ _ h => h) (by kernel_rfl) (fun w' hR => by skip; go_simp; first | done | with_reducible rfl) rfl ?_
        try simp only [Act.put, List.setIfInBounds_toArray, List.set_cons_zero, List.set_cons_succ]
        refine rg_take (fuel := 0) 15 rfl (by kernel_rfl) (listed' := #[true, true, true, true, true, true, true, true, true, true, true, true, true, true, true, true]) (by kernel_rfl) (fun _ _ _ h => h) (by kernel_rfl) (fun w' hR => by skip; go_simp; first | done | with_reducible rfl) rfl ?_
        try simp only [Act.put, List.setIfInBounds_toArray, List.set_cons_zero, List.set_cons_succ]
        refine rg_done (by kernel_rfl) ?_
        go_wp2
        go_ret2
        exact ⟨_, rfl, (HAL.out.trans (HB.out.mono HAL.out.size)).drew⟩
theorem has_calls (A : Option Addr) (n c : Nat) (l : List Pr) (hn : l.length = n) (v pl : Int) (b : Bool) (hb : b = true ↔ (v, pl) ∈ l) (w : World) (hC : kP.C w A n l) (hr : Rise l) (hl : n ≤ 1000) :
    Calls Try.prog 27 #[.slice A n c, .int .i64 v, .int .i64 pl] w fun e w' => e = .returned (.bool b) ∧ Below w.heap.size w w' := by
  have hcon := search_calls A n c l hn (v, pl) b hb w hC hr hl
  clear hC
  go_enter Try.func27, Try.ntmps27
  go_wp2_with (first | (go_at_call 39; refine hcon.mono ?_; rintro e w2 ⟨i, rfl, hb2⟩; have HB2 := Aside0.mk hb2; clear hb2))
  go_ret
  exact ⟨rfl, HB2.out⟩
set_option maxHeartbeats 2000000 in
set_option maxRecDepth 100000 in
theorem within_calls (A A2 : Option Addr) (n c m c2 : Nat) (l all : List Pr) (hn : l.length = n) (hm : all.length = m) (b : Bool) (hb : b = true ↔ ∀ p ∈ l, p ∈ all) (w : World) (hC : kP.C w A n l) (hC2 : kP.C w A2 m all) (hr : Rise all) (hl : n ≤ 1000) (hl2 : m ≤ 1000) :
    Calls Try.prog 26 #[.slice A n c, .slice A2 m c2] w fun e w' => e = .returned (.bool b) ∧ Below w.heap.size w w' := by
  have HC := Aside0.mk hC
  have HC2 := Aside0.mk hC2
  have HN := Aside0.mk hn
  have HMN := Aside0.mk hm
  have HRI := Aside0.mk hr
  have HBB := Aside0.mk hb
  have HB0 := Aside0.mk (Below.refl w.heap.size w)
  clear hC hC2 hn hm hr hb
  go_enter Try.func26, Try.ntmps26
  go_wp2_with fail
  go_loopw [9] (fun vi wr => ∃ k : Nat, k ≤ n ∧ vi = .int .i64 k ∧ Aside0 (Below w.heap.size w wr) ∧ Aside0 (∀ i p, i < k → l[i]? = some p → p ∈ all)) (fun vi _ => n - (intOf vi).toNat)
  case atStart => exact ⟨0, by omega, rfl, HB0, ⟨fun i p hi => by omega⟩⟩
  case round =>
    clear HB0
    obtain ⟨k, hk, rfl, HB, HI⟩ := hrel
    by_cases hgo : k < n
    · obtain ⟨p, hp⟩ : ∃ p, l[k]? = some p := ⟨_, List.getElem?_eq_getElem (by rw [HN.out]; exact hgo)⟩
      obtain ⟨ad, rfl, h0, h1⟩ := P_get (Kd.C_below HC.out HB.out) hp
      obtain ⟨WA, hWA⟩ : ∃ WA, WA = wr.alloc (.cells #[.int .i64 p.1, .int .i64 p.2] 25) := ⟨_, rfl⟩
      have hal : Below wr.heap.size wr WA := by rw [hWA]; exact (Below.refl _ _).alloc (Nat.le_refl _) _
      have HBA := Aside0.mk (show Below w.heap.size w WA from HB.out.trans (hal.mono HB.out.size))
      have HP := Aside0.mk hp
      obtain ⟨r, hr⟩ : ∃ r, r = decide (p ∈ all) := ⟨_, rfl⟩
      have hcon := has_calls A2 m c2 all HMN.out p.1 p.2 r (by rw [hr]; simp) WA (Kd.C_below HC2.out HBA.out) HRI.out hl2
      clear hp hal
      cases r with
      | true =>
        have HPA := Aside0.mk (show p ∈ all from of_decide_eq_true hr.symm)
        clear hr
        go_wp2_with (first | (rw [← hWA]; go_at_call 27; refine hcon.mono ?_; rintro e w2 ⟨rfl, hb2⟩; have HB2 := Aside0.mk hb2; clear hb2))
        go_roundw
        case rel => exact ⟨k + 1, by omega, by go_num, ⟨HBA.out.trans (HB2.out.mono HBA.out.size)⟩, ⟨fun i p' hi hp' => by
          rcases (by omega : i < k ∨ i = k) with h | h
          · exact HI.out i p' h hp'
          · subst h
            rw [HP.out] at hp'
            obtain rfl := Option.some.inj hp'
            exact HPA.out⟩⟩
        case measure => simp [intOf]; omega
      | false =>
        have hbf : b = false := by
          rw [← Bool.not_eq_true, HBB.out]
          intro h
          exact of_decide_eq_false hr.symm (h p (List.mem_of_getElem? HP.out))
        clear hr
        subst hbf
        go_wp2_with (first | (rw [← hWA]; go_at_call 27; refine hcon.mono ?_; rintro e w2 ⟨rfl, hb2⟩; have HB2 := Aside0.mk hb2; clear hb2))
        go_ret
        exact ⟨rfl, HBA.out.trans (HB2.out.mono HBA.out.size)⟩
    · have hbt : b = true := by
        rw [HBB.out]
        intro p hp
        obtain ⟨i, hi⟩ := List.getElem?_of_mem hp
        exact HI.out i p (by have := (List.getElem?_eq_some_iff.1 hi).1; rw [HN.out] at this; omega) hi
      subst hbt
      go_wp2_with fail
      go_ret
      exact ⟨rfl, HB.out⟩
/-- Has, as Meet calls it. -/
theorem meet_fn (p : Pr) (bl : Nat) (A : Option Addr) (m c : Nat) (l : List Pr) (hm : l.length = m) (w : World) (hb : w.cell? ⟨bl, 0, none⟩ = some (.slice A m c)) (hC : kP.C w A m l) (hr : Rise l) (hl : m ≤ 1000) :
    Calls Try.prog 38 (#[.agg #[.int .i64 p.1, .int .i64 p.2]] ++ #[.pointer (some ⟨bl, 0, none⟩)]) w fun e w' => e = .returned (.bool (decide (p ∈ l))) ∧ Below w.heap.size w w' := by
  show Calls Try.prog 38 #[.agg #[.int .i64 p.1, .int .i64 p.2], .pointer (some ⟨bl, 0, none⟩)] w _
  have hbl := blk_of_cell hb
  simp only at hbl
  obtain ⟨WA, hWA⟩ : ∃ WA, WA = w.alloc (.cells #[.int .i64 p.1, .int .i64 p.2] 25) := ⟨_, rfl⟩
  have hal : Below w.heap.size w WA := by rw [hWA]; exact (Below.refl _ _).alloc (Nat.le_refl _) _
  have hc : WA.cell? ⟨bl, 0, none⟩ = some (.slice A m c) := pw_cell_below hal hb
  have hnew : WA.heap[w.heap.size]? = some (.cells #[.int .i64 p.1, .int .i64 p.2] 25 (0, 0)) := by rw [hWA]; exact heap_alloc_new _ _
  have y0 : WA.cell? ⟨w.heap.size, 0, none⟩ = some (.int .i64 p.1) := by simp [World.cell?, hnew]
  have y1 : WA.cell? ⟨w.heap.size, 1, none⟩ = some (.int .i64 p.2) := by simp [World.cell?, hnew]
  obtain ⟨r, hr2⟩ : ∃ r, r = decide (p ∈ l) := ⟨_, rfl⟩
  have hcon := has_calls A m c l hm p.1 p.2 r (by rw [hr2]; simp) WA (Kd.C_below hC hal) hr hl
  have HAL := Aside0.mk hal
  rw [← hr2]
  clear hb hC hnew hal hr2
  go_enter Try.func38, Try.ntmps38
  go_upto_region 1 with fail
  rw [← hWA]
  clear hWA
  go_wp2_with (first | (go_at_call 27; refine hcon.mono ?_; rintro e w2 ⟨rfl, hb2⟩; have HB2 := Aside0.mk hb2; clear hb2))
  go_ret
  exact ⟨rfl, HAL.out.trans (HB2.out.mono HAL.out.size)⟩
theorem meet_enters : ∀ args w, (callFunc 38 args).run Try.prog w = .ok (.enter 38 args) w := enters_of Try.func38 (by kernel_rfl) rfl
set_option maxHeartbeats 2000000 in
set_option maxRecDepth 100000 in
theorem meet_calls (A A2 : Option Addr) (n c m c2 : Nat) (a b : List Pr) (hn : a.length = n) (hm : b.length = m) (w : World) (hC : kP.C w A n a) (hC2 : kP.C w A2 m b) (hra : Rise a) (hr : Rise b) (hl : n ≤ 500) (hl2 : m ≤ 500) :
    Calls Try.prog 25 #[.slice A n c, .slice A2 m c2] w fun e w' => ∃ u l', e = .returned u ∧ kP.R 25 w' w.heap.size (fun _ => True) u l' ∧ Rise l' ∧ (∀ p, p ∈ l' ↔ p ∈ a ∧ p ∈ b) ∧ Below w.heap.size w w' := by
  have HC := Aside0.mk hC
  have HC2 := Aside0.mk hC2
  have HN := Aside0.mk hn
  have HMN := Aside0.mk hm
  have HRA := Aside0.mk hra
  have HRI := Aside0.mk hr
  obtain ⟨W, hW⟩ : ∃ W, W = w.alloc (.cells #[.slice A2 m c2] 22) := ⟨_, rfl⟩
  have hal : Below w.heap.size w W := by rw [hW]; exact (Below.refl _ _).alloc (Nat.le_refl _) _
  have hnew : W.heap[w.heap.size]? = some (.cells #[.slice A2 m c2] 22 (0, 0)) := by rw [hW]; exact heap_alloc_new _ _
  have HB0 := Aside0.mk (show W.cell? ⟨w.heap.size, 0, none⟩ = some (.slice A2 m c2) by simp [World.cell?, hnew])
  have HAL := Aside0.mk hal
  have HNIL := Aside0.mk (show kP.C W none 0 [] from ⟨rfl, by omega, fun h => by omega⟩)
  clear hC hC2 hn hm hra hr hal hnew
  go_enter Try.func25, Try.ntmps25
  go_upto_region 1 with fail
  rw [← hW]
  clear hW
  go_wp2_with (first | (go_at_call 34; refine (with_calls A n c a HN.out 38 #[.pointer (some ⟨w.heap.size, 0, none⟩)] (fun p => decide (p ∈ b)) none 0 0 [] rfl W (Kd.C_below HC.out HAL.out) HNIL.out meet_enters (fun p W2 _ hW2 => meet_fn p w.heap.size A2 m c2 b HMN.out W2 (pw_cell_below hW2 HB0.out) (Kd.C_below (Kd.C_below HC2.out HAL.out) hW2) HRI.out (by omega)) (by rw [List.append_nil]; exact HRA.out.nodup.filter _) (by omega) (by omega)).mono ?_; rintro e w5 ⟨v5, l5, rfl, ho5, hr5, hm5, hb5⟩; have HO5 := Aside0.mk ho5; have HR5 := Aside0.mk hr5; have HM5 := Aside0.mk hm5; have HB5 := Aside0.mk hb5; clear ho5 hr5 hm5 hb5))
  go_ret
  refine ⟨_, l5, rfl, Kd.R_lower HO5.out HAL.out.size, HR5.out, fun p => ?_, HAL.out.trans (HB5.out.mono HAL.out.size)⟩
  rw [HM5.out p]
  simp
end Go.Proofs.Ytmkkebllmmafmaa.Ph
