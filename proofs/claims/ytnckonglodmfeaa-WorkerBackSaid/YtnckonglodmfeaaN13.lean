/- Contracts and plain facts that the statements' proofs use (part 13). -/
import Derived.Test.YtnckonglodmfeaaN9
import Derived.Test.YtnckonglodmfeaaN12
set_option linter.unusedVariables false
set_option linter.unusedSimpArgs false
namespace Go.Proofs.Ytnckonglodmfeaa.Ik
open Ls Go.RowKit Go.Proofs.YtnckonglodmfeaaW.PrintWords Go.Proofs.YtnckonglodmfeaaW.PrintLast Go.Proofs.YtnckonglodmfeaaW.PrintMore B R S Is Js Gs Gc
set_option maxHeartbeats 4000000 in
set_option maxRecDepth 100000 in
theorem same_codesG (p v sl p' v' sl' : Int) (l m : List Blk) (n n' : Nat) (hn : l.length = n) (hm : m.length = n') (A B : Option Addr) (c e : Nat) (w : World) (hA : kBlk.C w A n l) (hB : kBlk.C w B n' m) :
 Calls Try.prog 66 #[.agg #[.int .i64 p, .int .i64 v, .int .i64 sl, .slice A n c], .agg #[.int .i64 p', .int .i64 v', .int .i64 sl', .slice B n' e]] w (SameRet ((p, v, sl, l) = (p', v', sl', m)) w) := by
 have mixed : Try.prog.follows .mixedOrders = true := by kernel_rfl
 have HA := aM hA
 have HB := aM hB
 have HN := aM hn
 have HM := aM hm
 clear hA hB hn hm
 have HWF := aM (show Below w.heap.size w ((w.alloc (.cells #[.int .i64 p, .int .i64 v, .int .i64 sl, .slice A n c] 54)).alloc (.cells #[.int .i64 p', .int .i64 v', .int .i64 sl', .slice B n' e] 54)) from ((Below.refl _ _).alloc (Nat.le_refl _) _).alloc (by rw [World.size_alloc]; omega) _)
 by_cases h1 : p = p'
 case neg =>
  obtain ⟨b1, b2⟩ := int_ne h1
  clear h1
  go_enter Try.func66, Try.ntmps66
  go_wp2
  go_ret
  exact SameRet.no HWF.out
 case pos =>
  subst h1
  by_cases h2 : v = v'
  case neg =>
   obtain ⟨b1, b2⟩ := int_ne h2
   clear h2
   go_enter Try.func66, Try.ntmps66
   go_wp2
   go_ret
   exact SameRet.no HWF.out
  case pos =>
   subst h2
   by_cases h3 : sl = sl'
   case neg =>
    obtain ⟨b1, b2⟩ := int_ne h3
    clear h3
    go_enter Try.func66, Try.ntmps66
    go_wp2
    go_ret
    exact SameRet.no HWF.out
   case pos =>
    subst h3
    go_enter Try.func66, Try.ntmps66
    go_wp2_with (go_at_call 84; refine (same_blocksG l m n n' HN.out HM.out A B c e _ (Kd.C_below HA.out HWF.out) (Kd.C_below HB.out HWF.out)).mono ?_; rintro _ w7 ⟨⟨bo, rfl, hbo⟩, hb⟩; have HBO := aM hbo; have HW7 := aM (HWF.out.trans (hb.mono HWF.out.size)); clear hb hbo)
    go_ret
    exact ⟨⟨bo, rfl, fun e => by rw [HBO.out e]⟩, HW7.out⟩
set_option maxHeartbeats 4000000 in
set_option maxRecDepth 100000 in
theorem same_pairsG (l m : List Pr) (n n' : Nat) (hn : l.length = n) (hm : m.length = n') (A B : Option Addr) (c e : Nat) (w : World) (hA : kP.C w A n l) (hB : kP.C w B n' m) :
 Calls Try.prog 100 #[.slice A n c, .slice B n' e] w (SameRet (l = m) w) := by
 have mixed : Try.prog.follows .mixedOrders = true := by kernel_rfl
 subst hn
 have HA := aM hA
 have hll := hA.2.1
 by_cases hnm : n' = l.length
 case neg =>
  have hl2 := hB.2.1
  obtain ⟨h1, h2⟩ := int_ne (x := (l.length : Int)) (y := (n' : Int)) (by omega)
  clear hA hB hm
  go_enter Try.func100, Try.ntmps100
  go_wp2
  go_ret
  exact SameRet.no (Below.refl _ _)
 case pos =>
  subst hnm
  have HB := aM hB
  have HM := aM hm
  clear hA hB hm
  go_enter Try.func100, Try.ntmps100
  go_wp2_with fail
  go_loopw [5] (fun vi wr => ∃ j : Nat, j ≤ l.length ∧ vi = .int .i64 j ∧ Aside0 (l.take j = m.take j) ∧ Aside0 (Below w.heap.size w wr)) (fun vi _ => l.length - (intOf vi).toNat)
  case atStart => exact ⟨0, by omega, rfl, ⟨by simp⟩, ⟨Below.refl _ _⟩⟩
  case round =>
   obtain ⟨wo, hwo⟩ : ∃ wo, wo = wr := ⟨_, rfl⟩
   subst hwo
   obtain ⟨j, hj, rfl, HT, HZ⟩ := hrel
   by_cases hjl : j < l.length
   · obtain ⟨⟨p, q⟩, hx⟩ : ∃ x, l[j]? = some x := ⟨_, List.getElem?_eq_getElem hjl⟩
     obtain ⟨⟨p', q'⟩, hy⟩ : ∃ x, m[j]? = some x := ⟨_, List.getElem?_eq_getElem (by rw [HM.out]; exact hjl)⟩
     obtain ⟨ad, rfl, b0, b1⟩ := pair_cells HA.out hx
     obtain ⟨ad', rfl, c0, c1⟩ := pair_cells HB.out hy
     have HBX := aM (show ∀ W', Below w.heap.size w W' → (W'.cell? (ad.add (j * 2)) = some (.int .i64 p) ∧ W'.cell? ⟨(ad.add (j * 2)).block, (ad.add (j * 2)).off + 1, none⟩ = some (.int .i64 q)) ∧ W'.cell? (ad'.add (j * 2)) = some (.int .i64 p') ∧ W'.cell? ⟨(ad'.add (j * 2)).block, (ad'.add (j * 2)).off + 1, none⟩ = some (.int .i64 q') from fun W' h =>
      ⟨⟨pw_cell_below h b0, pw_cell_below h b1⟩, pw_cell_below h c0, pw_cell_below h c1⟩)
     have HBK := aM (show ∀ W', Keep (fun _ => False) wo.drew W' → Below w.heap.size w W' from fun W' h => Keep.below_then HZ.out.drew h HZ.out.size (fun _ _ => id))
     have hne := fun W => run_neqPr W p q p' q'
     by_cases hE : p = p' ∧ q = q'
     case neg =>
      have hbb : (!(p == p' && (q == q'))) = true := by
       rw [Bool.not_eq_true', Bool.and_eq_false_iff]
       by_cases h1 : p = p'
       · exact .inr (int_ne (fun h2 => hE ⟨h1, h2⟩)).1
       · exact .inl (int_ne h1).1
      simp only [hbb] at hne
      clear hx hy b0 b1 c0 c1 hbb hE
      go_wp2_with fail
      refine rk_start (fun _ => False) (by kernel_rfl) (n := 9) (l := (bl 9 0)) (by kernel_rfl) (by kernel_rfl) ?_
      refine kt 0 (bl 9 1) rfl (fun w' hR => by go_simp; first | done | with_reducible rfl) rfl ?_
      try simp only [Act.put, pB, pC, pD]
      refine kt 1 (bl 9 3) rfl (fun w' hR => by go_simp; first | done | with_reducible rfl) rfl ?_
      try simp only [Act.put, pB, pC, pD]
      refine kt 2 (bl 9 7) rfl (fun w' hR => by go_simp; first | done | with_reducible rfl) rfl ?_
      try simp only [Act.put, pB, pC, pD]
      refine kt 3 (bl 9 15) rfl (fun w' hR => by obtain ⟨⟨x0, x1⟩, y0, y1⟩ := HBX.out w' (HBK.out w' hR); go_simp; first | done | with_reducible rfl) rfl ?_
      try simp only [Act.put, pB, pC, pD]
      refine kt 4 (bl 9 31) rfl (fun w' hR => by go_simp; first | done | with_reducible rfl) rfl ?_
      try simp only [Act.put, pB, pC, pD]
      refine kt 5 (bl 9 63) rfl (fun w' hR => by go_simp; first | done | with_reducible rfl) rfl ?_
      try simp only [Act.put, pB, pC, pD]
      refine kt 6 (bl 9 127) rfl (fun w' hR => by go_simp; first | done | with_reducible rfl) rfl ?_
      try simp only [Act.put, pB, pC, pD]
      refine kt 7 (bl 9 255) rfl (fun w' hR => by obtain ⟨⟨x0, x1⟩, y0, y1⟩ := HBX.out w' (HBK.out w' hR); go_simp; first | done | with_reducible rfl) rfl ?_
      try simp only [Act.put, pB, pC, pD]
      refine kt 8 (bl 9 511) rfl (fun w' hR => by have x0 := hne w'; go_simp; first | done | with_reducible rfl) rfl ?_
      try simp only [Act.put, pB, pC, pD]
      refine rk_done (by kernel_rfl) ?_
      clear HBK hne
      go_wp2
      go_ret
      exact SameRet.no HZ.out.drew
     case pos =>
      obtain ⟨rfl, rfl⟩ := hE
      have hbb : (!(p == p && (q == q))) = false := by simp
      simp only [hbb] at hne
      have HTN := aM (take_more HT.out hx hy)
      clear hx hy b0 b1 c0 c1 hbb
      go_wp2_with fail
      refine rk_start (fun _ => False) (by kernel_rfl) (n := 9) (l := (bl 9 0)) (by kernel_rfl) (by kernel_rfl) ?_
      refine kt 0 (bl 9 1) rfl (fun w' hR => by go_simp; first | done | with_reducible rfl) rfl ?_
      try simp only [Act.put, pB, pC, pD]
      refine kt 1 (bl 9 3) rfl (fun w' hR => by go_simp; first | done | with_reducible rfl) rfl ?_
      try simp only [Act.put, pB, pC, pD]
      refine kt 2 (bl 9 7) rfl (fun w' hR => by go_simp; first | done | with_reducible rfl) rfl ?_
      try simp only [Act.put, pB, pC, pD]
      refine kt 3 (bl 9 15) rfl (fun w' hR => by obtain ⟨⟨x0, x1⟩, y0, y1⟩ := HBX.out w' (HBK.out w' hR); go_simp; first | done | with_reducible rfl) rfl ?_
      try simp only [Act.put, pB, pC, pD]
      refine kt 4 (bl 9 31) rfl (fun w' hR => by go_simp; first | done | with_reducible rfl) rfl ?_
      try simp only [Act.put, pB, pC, pD]
      refine kt 5 (bl 9 63) rfl (fun w' hR => by go_simp; first | done | with_reducible rfl) rfl ?_
      try simp only [Act.put, pB, pC, pD]
      refine kt 6 (bl 9 127) rfl (fun w' hR => by go_simp; first | done | with_reducible rfl) rfl ?_
      try simp only [Act.put, pB, pC, pD]
      refine kt 7 (bl 9 255) rfl (fun w' hR => by obtain ⟨⟨x0, x1⟩, y0, y1⟩ := HBX.out w' (HBK.out w' hR); go_simp; first | done | with_reducible rfl) rfl ?_
      try simp only [Act.put, pB, pC, pD]
      refine kt 8 (bl 9 511) rfl (fun w' hR => by have x0 := hne w'; go_simp; first | done | with_reducible rfl) rfl ?_
      try simp only [Act.put, pB, pC, pD]
      refine rk_done (by kernel_rfl) ?_
      clear HBK hne
      go_wp2
      go_roundw
      case rel => exact ⟨j + 1, by omega, by go_num, HTN, ⟨HZ.out.drew⟩⟩
      case measure => simp [intOf]; omega
   · obtain rfl : j = l.length := by omega
     have hlm : l = m := by
      have h1 := HT.out
      rw [List.take_length, ← HM.out, List.take_length] at h1
      exact h1
     have HLM := aM hlm
     clear hlm HT
     go_wp2
     go_ret
     exact SameRet.yes HLM.out HZ.out
set_option maxHeartbeats 4000000 in
set_option maxRecDepth 100000 in
theorem same_certsG (l m : Crt) (n n' : Nat) (hn : l.length = n) (hm : m.length = n') (A B : Option Addr) (c e : Nat) (w : World) (hA : kPs.C w A n l) (hB : kPs.C w B n' m) :
 Calls Try.prog 67 #[.slice A n c, .slice B n' e] w (SameRet (l = m) w) := by
 have mixed : Try.prog.follows .mixedOrders = true := by kernel_rfl
 subst hn
 have HA := aM hA
 have hll := hA.2.1
 by_cases hnm : n' = l.length
 case neg =>
  have hl2 := hB.2.1
  obtain ⟨h1, h2⟩ := int_ne (x := (l.length : Int)) (y := (n' : Int)) (by omega)
  clear hA hB hm
  go_enter Try.func67, Try.ntmps67
  go_wp2
  go_ret
  exact SameRet.no (Below.refl _ _)
 case pos =>
  subst hnm
  have HB := aM hB
  have HM := aM hm
  clear hA hB hm
  go_enter Try.func67, Try.ntmps67
  go_wp2_with fail
  go_loopw [5] (fun vi wr => ∃ j : Nat, j ≤ l.length ∧ vi = .int .i64 j ∧ Aside0 (l.take j = m.take j) ∧ Aside0 (Below w.heap.size w wr)) (fun vi _ => l.length - (intOf vi).toNat)
  case atStart => exact ⟨0, by omega, rfl, ⟨by simp⟩, ⟨Below.refl _ _⟩⟩
  case round =>
   obtain ⟨wo, hwo⟩ : ∃ wo, wo = wr := ⟨_, rfl⟩
   subst hwo
   obtain ⟨j, hj, rfl, HT, HZ⟩ := hrel
   by_cases hjl : j < l.length
   · obtain ⟨ps, hx⟩ : ∃ x, l[j]? = some x := ⟨_, List.getElem?_eq_getElem hjl⟩
     obtain ⟨qs, hy⟩ : ∃ x, m[j]? = some x := ⟨_, List.getElem?_eq_getElem (by rw [HM.out]; exact hjl)⟩
     obtain ⟨ad, A1, n1, rfl, b0, hn1, hC1⟩ := crt_cells HA.out hx
     obtain ⟨ad', A2, n2, rfl, c0, hn2, hC2⟩ := crt_cells HB.out hy
     have HC1 := aM hC1
     have HC2 := aM hC2
     have HX := aM hx
     have HY := aM hy
     have HBX := aM (show ∀ W', Below w.heap.size w W' → W'.cell? (ad.add j) = some (.slice A1 ps.length n1) ∧ W'.cell? (ad'.add j) = some (.slice A2 qs.length n2) from fun W' h =>
      ⟨pw_cell_below h b0, pw_cell_below h c0⟩)
     have HBK := aM (show ∀ W', Keep (fun _ => False) wo.drew W' → Below w.heap.size w W' from fun W' h => Keep.below_then HZ.out.drew h HZ.out.size (fun _ _ => id))
     clear hx hy b0 c0 hC1 hC2
     go_wp2_with fail
     refine rk_start (fun _ => False) (by kernel_rfl) (n := 10) (l := (bl 10 0)) (by kernel_rfl) (by kernel_rfl) ?_
     refine kt 0 (bl 10 1) rfl (fun w' hR => by go_simp; first | done | with_reducible rfl) rfl ?_
     try simp only [Act.put, pB, pC, pD]
     refine kt 1 (bl 10 3) rfl (fun w' hR => by go_simp; first | done | with_reducible rfl) rfl ?_
     try simp only [Act.put, pB, pC, pD]
     refine kt 2 (bl 10 7) rfl (fun w' hR => by go_simp; first | done | with_reducible rfl) rfl ?_
     try simp only [Act.put, pB, pC, pD]
     refine kt 3 (bl 10 15) rfl (fun w' hR => by obtain ⟨x0, y0⟩ := HBX.out w' (HBK.out w' hR); go_simp; first | done | with_reducible rfl) rfl ?_
     try simp only [Act.put, pB, pC, pD]
     refine kt 4 (bl 10 31) rfl (fun w' hR => by go_simp; first | done | with_reducible rfl) rfl ?_
     try simp only [Act.put, pB, pC, pD]
     refine kt 5 (bl 10 63) rfl (fun w' hR => by go_simp; first | done | with_reducible rfl) rfl ?_
     try simp only [Act.put, pB, pC, pD]
     refine kt 6 (bl 10 127) rfl (fun w' hR => by go_simp; first | done | with_reducible rfl) rfl ?_
     try simp only [Act.put, pB, pC, pD]
     refine kt 7 (bl 10 255) rfl (fun w' hR => by obtain ⟨x0, y0⟩ := HBX.out w' (HBK.out w' hR); go_simp; first | done | with_reducible rfl) rfl ?_
     try simp only [Act.put, pB, pC, pD]
     refine rk_step (fuel := 1) 8 rfl (by kernel_rfl) (listed' := (bl 10 511)) (by kernel_rfl) (by kernel_rfl) (fun K' hK => ?_)
     go_wp2_with (go_at_call 100; refine (same_pairsG ps qs ps.length qs.length rfl rfl A1 A2 n1 n2 _ (Kd.C_below HC1.out HZ.out.drew) (Kd.C_below HC2.out HZ.out.drew)).mono ?_; rintro _ w7 ⟨⟨bo, rfl, hbo⟩, hb⟩; have HBO := aM hbo; have HB7 := aM hb; clear hb hbo)
     refine hK.out _ _ (Keep.of_below HB7.out) ?_
     clear hK K'
     try simp only [Act.put, pB, pC, pD]
     refine kt 9 (bl 10 1023) rfl (fun w' hR => by go_simp; first | done | with_reducible rfl) rfl ?_
     try simp only [Act.put, pB, pC, pD]
     refine rk_done (by kernel_rfl) ?_
     clear HBK
     cases bo
     · go_wp2
       go_ret
       exact SameRet.no (HZ.out.drew.trans (HB7.out.mono HZ.out.size))
     · have HTN := aM (take_more HT.out HX.out (show m[j]? = some ps from by rw [HBO.out rfl]; exact HY.out))
       clear HBO
       go_wp2
       go_roundw
       case rel => exact ⟨j + 1, by omega, by go_num, HTN, ⟨HZ.out.drew.trans (HB7.out.mono HZ.out.size)⟩⟩
       case measure => simp [intOf]; omega
   · obtain rfl : j = l.length := by omega
     have hlm : l = m := by
      have h1 := HT.out
      rw [List.take_length, ← HM.out, List.take_length] at h1
      exact h1
     have HLM := aM hlm
     clear hlm HT
     go_wp2
     go_ret
     exact SameRet.yes HLM.out HZ.out
set_option maxHeartbeats 4000000 in
set_option maxRecDepth 100000 in
theorem same_tellsG (j n p v sl j' n' p' v' sl' : Int) (l l' : List Blk) (n0 n0' : Nat) (hn : l.length = n0) (hn' : l'.length = n0') (ct ct' : Crt) (m0 m0' : Nat) (hm : ct.length = m0) (hm' : ct'.length = m0') (A B : Option Addr) (c e : Nat) (D E : Option Addr) (d f : Nat) (w : World) (hA : kBlk.C w A n0 l) (hB : kBlk.C w B n0' l') (hD : kPs.C w D m0 ct) (hE : kPs.C w E m0' ct') :
 Calls Try.prog 26 #[.agg #[.int .i64 j, .int .u64 n, .int .i64 p, .int .i64 v, .int .i64 sl, .slice A n0 c, .slice D m0 d], .agg #[.int .i64 j', .int .u64 n', .int .i64 p', .int .i64 v', .int .i64 sl', .slice B n0' e, .slice E m0' f]] w (SameRet ((j, n, (p, v, sl, l), ct) = (j', n', (p', v', sl', l'), ct')) w) := by
 have mixed : Try.prog.follows .mixedOrders = true := by kernel_rfl
 have HA := aM hA
 have HB := aM hB
 have HD := aM hD
 have HE := aM hE
 have HN := aM hn
 have HM := aM hm
 have HN' := aM hn'
 have HM' := aM hm'
 clear hA hB hn hD hE hm hn' hm'
 obtain ⟨W0, hW0⟩ : ∃ W0, W0 = (w.alloc (.cells #[.int .i64 j, .int .u64 n, .int .i64 p, .int .i64 v, .int .i64 sl, .slice A n0 c, .slice D m0 d] 57)).alloc (.cells #[.int .i64 j', .int .u64 n', .int .i64 p', .int .i64 v', .int .i64 sl', .slice B n0' e, .slice E m0' f] 57) := ⟨_, rfl⟩
 have HWF := aM (show Below w.heap.size w W0 from by rw [hW0]; exact ((Below.refl _ _).alloc (Nat.le_refl _) _).alloc (by rw [World.size_alloc]; omega) _)
 have HSZ := aM (show W0.heap.size = w.heap.size + 2 by rw [hW0, World.size_alloc, World.size_alloc])
 have HX := aM (show ∀ W', Below (w.heap.size + 2) W0 W' → TellC W' w.heap.size j n p v sl (.slice A n0 c) (.slice D m0 d) ∧ TellC W' (w.heap.size + 1) j' n' p' v' sl' (.slice B n0' e) (.slice E m0' f) from fun W' h => by
  subst hW0
  obtain ⟨g, g'⟩ := two_cells h
  exact ⟨(cells7 g).1, (cells7 g').1⟩)
 by_cases h1 : j = j' ∧ n = n'
 case neg =>
  have h1 : ((j == j') = false ∧ (j != j') = true) ∨ (j = j' ∧ (n == n') = false ∧ (n != n') = true) := by
   by_cases h2 : j = j'
   · exact .inr ⟨h2, int_ne (fun h3 => h1 ⟨h2, h3⟩)⟩
   · exact .inl (int_ne h2)
  obtain ⟨⟨q0, q1, q2, q3, q4, q5, q6⟩, ⟨x0, x1, x2, x3, x4, x5, x6⟩⟩ := HX.out W0 (Below.refl _ _)
  rcases h1 with ⟨b1, b2⟩ | ⟨rfl, b1, b2⟩
  · go_enter Try.func26, Try.ntmps26
    go_upto_region 1 with fail
    rw [← hW0]
    clear hW0
    go_wp2
    go_ret
    exact SameRet.no HWF.out
  · go_enter Try.func26, Try.ntmps26
    go_upto_region 1 with fail
    rw [← hW0]
    clear hW0
    go_wp2
    go_ret
    exact SameRet.no HWF.out
 case pos =>
  obtain ⟨rfl, rfl⟩ := h1
  obtain ⟨⟨q0, q1, q2, q3, q4, q5, q6⟩, ⟨x0, x1, x2, x3, x4, x5, x6⟩⟩ := HX.out W0 (Below.refl _ _)
  go_enter Try.func26, Try.ntmps26
  go_upto_region 1 with fail
  rw [← hW0]
  clear hW0
  go_wp2_with (first
   | (go_at_call 66; refine (same_codesG p v sl p' v' sl' l l' n0 n0' HN.out HN'.out A B c e _ (Kd.C_below HA.out HWF.out) (Kd.C_below HB.out HWF.out)).mono ?_; rintro _ w7 ⟨⟨bo, rfl, hbo⟩, hb⟩; have HBO := aM hbo; have HZ7 := aM (show Below (w.heap.size + 2) W0 w7 from by rw [← HSZ.out]; exact hb); have HW7 := aM (HWF.out.trans (hb.mono HWF.out.size)); clear hb hbo q0 q1 q2 q3 q4 q5 q6 x0 x1 x2 x3 x4 x5 x6; obtain ⟨⟨q0, q1, q2, q3, q4, q5, q6⟩, ⟨x0, x1, x2, x3, x4, x5, x6⟩⟩ := HX.out w7 HZ7.out; cases bo)
   | (go_at_call 67; refine (same_certsG ct ct' m0 m0' HM.out HM'.out D E d f _ (Kd.C_below HD.out HW7.out) (Kd.C_below HE.out HW7.out)).mono ?_; rintro _ w8 ⟨⟨bo2, rfl, hbo2⟩, hb⟩; have HBO2 := aM hbo2; have HW8 := aM (HW7.out.trans (hb.mono HW7.out.size)); clear hb hbo2))
  · go_ret
    exact SameRet.no HW7.out
  · go_ret
    refine ⟨⟨bo2, rfl, fun e => ?_⟩, HW8.out⟩
    have h1 := HBO.out (by trivial)
    have h2 := HBO2.out e
    rw [h1, h2]
end Go.Proofs.Ytnckonglodmfeaa.Ik
namespace Go.Proofs.Ytnckonglodmfeaa.Ik
open Ls Lc Go.RowKit Go.Proofs.YtnckonglodmfeaaW.PrintWords Go.Proofs.YtnckonglodmfeaaW.PrintLast Go.Proofs.YtnckonglodmfeaaW.PrintMore B R S Is Js Gs Gc
set_option maxHeartbeats 4000000 in
set_option maxRecDepth 100000 in
theorem puttell_own (j n p v sl : Int) (l : List Blk) (A : Option Addr) (c : Nat) (ct : Crt) (A' : Option Addr) (c' : Nat) (w : World) (hn0 : 0 ≤ n) (hn1 : n < 18446744073709551616) (hC : kBlk.C w A l.length l) (hR : ∀ b ∈ l, BlkR b) (hll : l.length ≤ 100000) (hCT : kPs.C w A' ct.length ct) (hlt : ∀ ps ∈ ct, ps.length ≤ 1000) (hFE : codeErr (p, v, sl, l) = 0) (hCE : certErr ct = 0) (hj0 : 0 ≤ j) (hj1 : j < 16) (hlen : (tellB (j, n, (p, v, sl, l), ct)).length ≤ 65536) :
 Calls Try.prog 22 #[.agg #[.int .i64 j, .int .u64 n, .int .i64 p, .int .i64 v, .int .i64 sl, .slice A l.length c, .slice A' ct.length c']] w fun e w' => ∃ A8 c8 nf, e = .returned (.tuple #[.slice A8 nf c8, .int .i64 0]) ∧ (tellL (j, n, (p, v, sl, l), ct)).length = nf ∧ kU8.R 5 w' w.heap.size (fun _ => True) (.slice A8 nf c8) (tellL (j, n, (p, v, sl, l), ct)) ∧ Below w.heap.size w w' := by
 have mixed : Try.prog.follows .mixedOrders = true := by kernel_rfl
 have HC := aM hC
 have HR := aM hR
 have HCT := aM hCT
 have HLT := aM hlt
 have HA := aM (show Below w.heap.size w (w.alloc (.cells #[.int .i64 j, .int .u64 n, .int .i64 p, .int .i64 v, .int .i64 sl, .slice A l.length c, .slice A' ct.length c'] 57)) from (Below.refl _ _).alloc (Nat.le_refl _) _)
 have HSZ := aM (World.size_alloc w (.cells #[.int .i64 j, .int .u64 n, .int .i64 p, .int .i64 v, .int .i64 sl, .slice A l.length c, .slice A' ct.length c'] 57))
 have HX := aM (fun W' (h : Below (w.heap.size + 1) (w.alloc (.cells #[.int .i64 j, .int .u64 n, .int .i64 p, .int .i64 v, .int .i64 sl, .slice A l.length c, .slice A' ct.length c'] 57)) W') => tell_box h)
 have HFE := aM hFE
 have HCE := aM hCE
 clear hC hR hCT hlt
 have HFL := aM (code_len p v sl l hFE HR.out)
 have HCL := aM (cert_len ct hCE HLT.out)
 have h1 : ¬ j < 0 := by omega
 have h2 : ¬ 16 ≤ j := by omega
 clear hFE hCE
 go_enter Try.func22, Try.ntmps22
 go_upto_region 9 with (first | ((go_at_call 56; refine (wcode_calls p v sl l A c _ (Kd.C_below HC.out HA.out) HR.out hll).mono ?_; rintro _ w1 ⟨hbo, hb⟩; have HB1 := aM (show Below (w.heap.size + 1) (w.alloc (.cells #[.int .i64 j, .int .u64 n, .int .i64 p, .int .i64 v, .int .i64 sl, .slice A l.length c, .slice A' ct.length c'] 57)) w1 from hb.mono (by rw [HSZ.out]; exact Nat.le_refl _)); rw [HFE.out] at hbo; clear hb); obtain ⟨A1, c1, rfl, hlc1, hC1⟩ := hbo.2 rfl; obtain ⟨n1, hn1'⟩ : ∃ n1, (codeL (p, v, sl, l)).length = n1 := ⟨_, rfl⟩; rw [hn1'] at hC1 hlc1 ⊢; have HC1 := aM hC1; have HN1 := aM hn1'; clear hbo hC1 hn1'; obtain ⟨x0, x1, x2, x3, x4, x5, x6⟩ := HX.out w1 HB1.out) | ((go_at_call 57; refine (wcert_calls ct A' c' _ (Kd.C_below HCT.out (HA.out.trans (HB1.out.mono (by omega)))) HLT.out).mono ?_; rintro _ w2 ⟨hbo, hb⟩; have HB2 := aM (show Below (w.heap.size + 1) (w.alloc (.cells #[.int .i64 j, .int .u64 n, .int .i64 p, .int .i64 v, .int .i64 sl, .slice A l.length c, .slice A' ct.length c'] 57)) w2 from HB1.out.trans (hb.mono (by have h := HB1.out.size; rw [HSZ.out] at h; exact h))); have HK2 := aM hb; rw [HCE.out] at hbo; clear hb); obtain ⟨A2, c2, rfl, hlc2, hC2⟩ := hbo.2 rfl; obtain ⟨n2, hn2'⟩ : ∃ n2, (certL ct).length = n2 := ⟨_, rfl⟩; rw [hn2'] at hC2 hlc2 ⊢; have HC2 := aM hC2; have HN2 := aM hn2'; clear hbo hC2 hn2' x0 x1 x2 x3 x4 x5 x6; obtain ⟨x0, x1, x2, x3, x4, x5, x6⟩ := HX.out w2 HB2.out))
 have HXK := aM (show ∀ W', Keep (fun _ => False) w2.drew W' → TellC W' w.heap.size j n p v sl (.slice A l.length c) (.slice A' ct.length c') from fun W' h => HX.out W' (Keep.below_then HB2.out.drew h (by have h1 := HB2.out.size; rw [HSZ.out] at h1; exact h1) (fun _ _ => id)))
 have hn17 : n1 ≤ 700000 := by have := HFL.out; have := HN1.out; omega
 have hn27 : n2 ≤ 400000 := by have := HCL.out; have := HN2.out; omega
 clear x0 x1 x2 x3 x4 x5 x6
 refine rk_start (fun _ => False) (by kernel_rfl) (n := 12) (l := (bl 12 0)) (by kernel_rfl) (by kernel_rfl) ?_
 refine kt 0 (bl 12 1) rfl (fun w' hR => by go_simp; first | done | with_reducible rfl) rfl ?_
 try simp only [Act.put, pB, pC, pD]
 refine kt 1 (bl 12 3) rfl (fun w' hR => by obtain ⟨x0, x1, x2, x3, x4, x5, x6⟩ := HXK.out w' hR; go_simp; first | done | with_reducible rfl) rfl ?_
 try simp only [Act.put, pB, pC, pD]
 refine kt 2 (bl 12 7) rfl (fun w' hR => by have x9 := wrU64 j (by omega) (by omega); go_simp; first | done | with_reducible rfl) rfl ?_
 try simp only [Act.put, pB, pC, pD]
 refine kt 4 (bl 12 23) rfl (fun w' hR => by go_simp; first | done | with_reducible rfl) rfl ?_
 try simp only [Act.put, pB, pC, pD]
 refine kt 5 (bl 12 55) rfl (fun w' hR => by obtain ⟨x0, x1, x2, x3, x4, x5, x6⟩ := HXK.out w' hR; go_simp; first | done | with_reducible rfl) rfl ?_
 try simp only [Act.put, pB, pC, pD]
 refine kt 7 (bl 12 183) rfl (fun w' hR => by go_simp; first | done | with_reducible rfl) rfl ?_
 try simp only [Act.put, pB, pC, pD]
 refine kt 8 (bl 12 439) rfl (fun w' hR => by go_simp; first | done | with_reducible rfl) rfl ?_
 try simp only [Act.put, pB, pC, pD]
 refine kt 9 (bl 12 951) rfl (fun w' hR => by have x9 := wrU64 (n1 : Int) (by omega) (by omega); go_simp; first | done | with_reducible rfl) rfl ?_
 try simp only [Act.put, pB, pC, pD]
 refine rk_step (fuel := 3) 3 rfl (by kernel_rfl) (listed' := (bl 12 959)) (by kernel_rfl) (by kernel_rfl) (fun K' hK => ?_)
 go_wp2_with (go_at_call 38; refine (lput_n [] 0 rfl none 0 j (by omega) (by omega) _ (C_nil .u8 _) (by omega)).mono ?_; rintro _ w3 ⟨m3, A3, n3, c3, rfl, hm3, hmn3, hn3, hc3, -, hC3, hb3⟩; have HM3 := aM hm3; have HMN3 := aM hmn3; have HC3 := aM hC3; have HB3 := aM hb3; clear hm3 hmn3 hC3 hb3)
 refine hK.out _ _ (Keep.of_below HB3.out) ?_
 clear hK K'
 try simp only [Act.put, pB, pC, pD]
 refine rk_step (fuel := 2) 6 rfl (by kernel_rfl) (listed' := (bl 12 1023)) (by kernel_rfl) (by kernel_rfl) (fun K' hK => ?_)
 go_wp2_with (go_at_call 38; refine (lput_n m3 n3 HMN3.out A3 c3 n hn0 hn1 _ HC3.out (by omega)).mono ?_; rintro _ w4 ⟨m4, A4, n4, c4, rfl, hm4, hmn4, hn4, hc4, -, hC4, hb4⟩; have HM4 := aM hm4; have HMN4 := aM hmn4; have HC4 := aM hC4; have HB4 := aM hb4; clear hm4 hmn4 hC4 hb4)
 refine hK.out _ _ (Keep.of_below HB4.out) ?_
 clear hK K'
 try simp only [Act.put, pB, pC, pD]
 refine rk_step (fuel := 1) 10 rfl (by kernel_rfl) (listed' := (bl 12 2047)) (by kernel_rfl) (by kernel_rfl) (fun K' hK => ?_)
 go_wp2_with (go_at_call 38; refine (lput_n m4 n4 HMN4.out A4 c4 n1 (by omega) (by omega) _ HC4.out (by omega)).mono ?_; rintro _ w5 ⟨m5, A5, n5, c5, rfl, hm5, hmn5, hn5, hc5, hR5, hC5, hb5⟩; have HM5 := aM hm5; have HMN5 := aM hmn5; have HR5 := aM hR5; have HB5 := aM hb5; clear hm5 hmn5 hC5 hR5 hb5)
 refine hK.out _ _ (Keep.of_below HB5.out) ?_
 clear hK K'
 try simp only [Act.put, pB, pC, pD]
 refine kt 11 (bl 12 4095) rfl (fun w' hR => by go_simp; first | done | with_reducible rfl) rfl ?_
 try simp only [Act.put, pB, pC, pD]
 refine rk_done (by kernel_rfl) ?_
 have HW2 := aM (HA.out.trans (HB2.out.mono (by omega)))
 have HV3 := aM (show Below w2.heap.size w2 w3 from (Below.refl _ _).drew.trans HB3.out)
 have HV4 := aM (HV3.out.trans (HB4.out.mono HV3.out.size))
 have HV5 := aM (HV4.out.trans (HB5.out.mono HV4.out.size))
 have HR5' := aM (Kd.R_lower HR5.out HV4.out.size)
 have HC15 := aM (Kd.C_below (Kd.C_below HC1.out HK2.out) HV5.out)
 obtain ⟨cb, hcb⟩ : ∃ cb, codeL (p, v, sl, l) = cb := ⟨_, rfl⟩
 obtain ⟨lb, hlb⟩ : ∃ lb, certL ct = lb := ⟨_, rfl⟩
 obtain ⟨AL, hAL⟩ : ∃ AL, tellB (j, n, (p, v, sl, l), ct) = AL := ⟨_, rfl⟩
 have HALB := aM (show By AL by rw [← hAL]; exact tell_byB _)
 have HLEN := aM (show AL.length ≤ 65536 by rw [← hAL]; exact hlen)
 have HAL := aM (show m5 ++ cb ++ lb = AL by rw [← hAL, HM5.out, HM4.out, HM3.out, ← hcb, ← hlb]; simp [tellB, field_num j hj0 (by omega), HN1.out, field_num (n1 : Int) (by omega) (by omega), List.append_assoc])
 have HTL := aM (show tellL (j, n, (p, v, sl, l), ct) = layL 3 AL by rw [← hAL]; rfl)
 rw [hcb] at HC15 HN1
 rw [hlb] at HC2 HN2
 obtain ⟨m6, hm6⟩ : ∃ m6, m5 ++ cb = m6 := ⟨_, rfl⟩
 have HM6 := aM hm6
 rw [hm6] at HAL
 obtain ⟨n6, hn6⟩ : ∃ n6, m6.length = n6 := ⟨_, rfl⟩
 have HN6 := aM hn6
 have hn6b : n6 ≤ 800000 := by rw [← hn6, ← hm6, List.length_append, HMN5.out, HN1.out]; omega
 obtain ⟨fl, hfl⟩ : ∃ fl, layL 3 AL = fl := ⟨_, rfl⟩
 obtain ⟨nf, hnf⟩ : ∃ nf, fl.length = nf := ⟨_, rfl⟩
 obtain ⟨na, hna⟩ : ∃ na, AL.length = na := ⟨_, rfl⟩
 have HNA := aM hna
 have HNF := aM hnf
 have HFLL := aM hfl
 clear hAL hfl hnf hna hcb hlb hm6 hn6
 have hbig : ¬ 65536 < na := by have h1 := HNA.out; have h2 := HLEN.out; omega
 go_wp2_with (first
  | ((with_reducible refine gate_builtin (b := .append) (xs := #[.tmp 47, .tmp 48]) rfl ?_); at_builtin; refine Kd.R_append_rows (Kd.int .u8) (w0 := w2) w2.heap.size rfl (.tmp 47) (.tmp 48) 28 5 (.int .u8 0) 1 rfl Try.underlying28 infoU8 rfl (by decide) (by omega) (.slice A5 n5 c5) m5 cb _ _ _ (fun _ => True) (fun _ => False) rfl rfl ?aO ?aR (fun _ _ h => h) (fun _ h => h.elim) ?aF ?aB ?aS ?aL ?_; (case aR => exact HC15.out); (case aB => exact HV5.out); (case aF => exact (fun _ _ => trivial)); (case aO => exact HR5'.out); (case aS => (have := HV5.out.size; omega)); (case aL => (have := HMN5.out; have := HN1.out; omega)); (intro v6 w6 ho hb6 hg hat; rw [HM6.out] at ho; obtain ⟨A6, c6, rfl, hlc6, -⟩ := Kd.R_reads ho; rw [HN6.out] at hlc6 ho ⊢; have HO6 := aM ho; have HB6 := aM hb6; have HC26 := aM (Kd.C_below HC2.out hb6); clear ho hb6 hg hat))
  | ((with_reducible refine gate_builtin (b := .append) (xs := #[.tmp 49, .tmp 50]) rfl ?_); at_builtin; refine Kd.R_append_rows (Kd.int .u8) (w0 := w2) w2.heap.size rfl (.tmp 49) (.tmp 50) 28 5 (.int .u8 0) 1 rfl Try.underlying28 infoU8 rfl (by decide) (by omega) (.slice A6 n6 c6) m6 lb _ _ _ (fun _ => True) (fun _ => False) rfl rfl ?aO ?aR (fun _ _ h => h) (fun _ h => h.elim) ?aF ?aB ?aS ?aL ?_; (case aR => exact HC26.out); (case aB => exact HB6.out); (case aF => exact (fun _ _ => trivial)); (case aO => exact HO6.out); (case aS => (have := HB6.out.size; omega)); (case aL => (have := HN6.out; have := HN2.out; omega)); (intro v7 w7 ho hb7 hg hat; rw [HAL.out] at ho; obtain ⟨A7, c7, rfl, hlc7, hC7⟩ := Kd.R_reads ho; rw [HNA.out] at hlc7 hC7 ⊢; have HC7 := aM hC7; have HB7 := aM hb7; clear ho hb7 hg hat hC7))
  | (go_at_call 39; refine (lay_n 3 (by decide) (by decide) A7 c7 AL na HNA.out fl nf HFLL.out HNF.out _ HC7.out hlc7 HALB.out (by omega)).mono ?_; rintro e w8 ⟨A8, c8, rfl, hR8, hC8, hc8, hb8⟩; have HR8 := aM (Kd.R_lower hR8 (Nat.le_trans HW2.out.size HB7.out.size)); have HB8 := aM (HB7.out.trans (hb8.mono HB7.out.size)); clear hC8 hR8 hb8))
 go_returns
 rw [HTL.out, HFLL.out]
 exact ⟨A8, c8, nf, rfl, HNF.out, HR8.out, HW2.out.trans (HB8.out.mono HW2.out.size)⟩
end Go.Proofs.Ytnckonglodmfeaa.Ik
