/- The reference's sets: of pairs. -/
import Derived.Test.YtmkkebllmmafmaaPo
namespace Go.Proofs.Ytmkkebllmmafmaa.Px
open Go.Sort Go.RowKit Go.Proofs.YtmkkebllmmafmaaW.PrintWords Go.Proofs.YtmkkebllmmafmaaW.PrintLast Go.Proofs.YtmkkebllmmafmaaW.PrintMore Go.Proofs.Ytmkkebllmmafmaa.B Go.Proofs.Ytmkkebllmmafmaa.Ps Go.Proofs.Ytmkkebllmmafmaa.R Go.Proofs.Ytmkkebllmmafmaa.Pk Go.Proofs.Ytmkkebllmmafmaa.Pa Go.Proofs.Ytmkkebllmmafmaa.Pm Go.Proofs.Ytmkkebllmmafmaa.Pw Go.Proofs.Ytmkkebllmmafmaa.Pd Go.Proofs.Ytmkkebllmmafmaa.Pg Go.Proofs.Ytmkkebllmmafmaa.S
set_option linter.unusedVariables false
set_option linter.unusedSimpArgs false
set_option maxHeartbeats 4000000 in
set_option maxRecDepth 100000 in
theorem of_calls (A : Option Addr) (c : Nat) (l : List Pr) (m : Nat) (hm : l.length = m) (V n N : Nat) (hN : N = V * n) (hb : N ≤ 1000) (hV : V ≤ 1000) (hn : n ≤ 1000) (hl : m ≤ 1000) (hbox : InBox V n l) (w : World) (hC : kP.C w A m l) :
    Calls Try.prog 31 #[.slice A m c, .int .i64 V, .int .i64 n] w fun e w' => ∃ g h, e = .returned (.pointer (some ⟨g, 0, none⟩)) ∧ SetAt w' w.heap.size g h V n N (memF l) ∧ Below w.heap.size w w' := by
  have HC := Aside0.mk hC
  have HM := Aside0.mk hm
  have HBX := Aside0.mk hbox
  clear hC hm hbox
  go_enter Try.func31, Try.ntmps31
  go_wp2_with (first | (go_at_call 29; refine (new_calls V n N hN hV hn (by omega) w).mono ?_; rintro e w1 ⟨g, h, rfl, hs, hb1⟩; have HS0 := Aside0.mk (hs.congr (f' := memF (l.take 0)) (fun v l _ _ => by simp [memF])); have HK0 := Aside0.mk (Keep.refl (· = h) w1); have HB1 := Aside0.mk hb1; have hhb := hs.hb; clear hs hb1))
  go_loopw [8] (fun vk wr => ∃ k : Nat, k ≤ m ∧ vk = .int .i64 k ∧ Aside0 (SetAt wr w.heap.size g h V n N (memF (l.take k))) ∧ Aside0 (Keep (· = h) w1 wr)) (fun vk _ => m - (intOf vk).toNat)
  case atStart => exact ⟨0, by omega, rfl, HS0, HK0⟩
  case round =>
    clear HS0 HK0
    obtain ⟨k, hk, rfl, HS, HK⟩ := hrel
    by_cases hgo : k < m
    · have d0 : decide ((k : Int) < m) = true := decide_eq_true (by omega)
      obtain ⟨p, hp⟩ : ∃ p, l[k]? = some p := ⟨_, List.getElem?_eq_getElem (by rw [HM.out]; exact hgo)⟩
      obtain ⟨hp1, hp2, hp3, hp4⟩ := HBX.out p (List.mem_of_getElem? hp)
      obtain ⟨a, ha⟩ : ∃ a : Nat, p.1 = (a : Int) := ⟨p.1.toNat, by omega⟩
      obtain ⟨b, hbb⟩ : ∃ b : Nat, p.2 = (b : Int) := ⟨p.2.toNat, by omega⟩
      have haV : a < V := by omega
      have hbn : b < n := by omega
      have hbw : Below w.heap.size w wr := Keep.below_then HB1.out HK.out HB1.out.size (fun i hi e => by omega)
      obtain ⟨ad, rfl, y0, y1⟩ := P_get (Kd.C_below HC.out hbw) hp
      rw [ha] at y0
      rw [hbb] at y1
      have HF := Aside0.mk (show ∀ W, Keep (· = h) wr.drew W → W.cell? (ad.add (k * 2)) = some (.int .i64 a) ∧ W.cell? ⟨(ad.add (k * 2)).block, (ad.add (k * 2)).off + 1, none⟩ = some (.int .i64 b) from fun W hW => by
        have hbW : Below w.heap.size w W := Keep.below_then hbw.drew hW hbw.size (fun i hi e => by omega)
        obtain ⟨ad2, e2, z0, z1⟩ := P_get (Kd.C_below HC.out hbW) hp
        injection e2 with e2
        subst e2
        rw [ha] at z0
        rw [hbb] at z1
        exact ⟨z0, z1⟩)
      have hpe : p = ((a : Int), (b : Int)) := Prod.ext ha hbb
      have HP := Aside0.mk (show l.take (k + 1) = l.take k ++ [((a : Int), (b : Int))] by rw [List.take_add_one, hp, hpe]; rfl)
      have HSD := Aside0.mk (HS.out.move (w' := wr.drew) rfl rfl)
      clear y0 y1 hp hp1 hp2 hp3 hp4 ha hbb hbw hpe
      go_wp2_with fail
      refine rk_start ((· = h)) (by kernel_rfl) (n := 12) (l := #[false, false, false, false, false, false, false, false, false, false, false, false]) (by kernel_rfl) (by kernel_rfl) ?_
      refine rk_take (fuel := 11) 0 rfl (by kernel_rfl) (listed' := #[true, false, false, false, false, false, false, false, false, false, false, false]) (by kernel_rfl) (fun _ _ _ h => h) (by kernel_rfl) (fun w' hR => by obtain ⟨x0, x1⟩ := HF.out w' hR; go_simp; first | done | with_reducible rfl) rfl ?_
      try simp only [Act.put, List.setIfInBounds_toArray, List.set_cons_zero, List.set_cons_succ]
      refine rk_take (fuel := 10) 1 rfl (by kernel_rfl) (listed' := #[true, true, false, false, false, false, false, false, false, false, false, false]) (by kernel_rfl) (fun _ _ _ h => h) (by kernel_rfl) (fun w' hR => by obtain ⟨x0, x1⟩ := HF.out w' hR; go_simp; first | done | with_reducible rfl) rfl ?_
      try simp only [Act.put, List.setIfInBounds_toArray, List.set_cons_zero, List.set_cons_succ]
      refine rk_take (fuel := 9) 2 rfl (by kernel_rfl) (listed' := #[true, true, true, false, false, false, false, false, false, false, false, false]) (by kernel_rfl) (fun _ _ _ h => h) (by kernel_rfl) (fun w' hR => by obtain ⟨x0, x1⟩ := HF.out w' hR; go_simp; first | done | with_reducible rfl) rfl ?_
      try simp only [Act.put, List.setIfInBounds_toArray, List.set_cons_zero, List.set_cons_succ]
      refine rk_take (fuel := 8) 3 rfl (by kernel_rfl) (listed' := #[true, true, true, true, false, false, false, false, false, false, false, false]) (by kernel_rfl) (fun _ _ _ h => h) (by kernel_rfl) (fun w' hR => by obtain ⟨x0, x1⟩ := HF.out w' hR; go_simp; first | done | with_reducible rfl) rfl ?_
      try simp only [Act.put, List.setIfInBounds_toArray, List.set_cons_zero, List.set_cons_succ]
      refine rk_take (fuel := 7) 4 rfl (by kernel_rfl) (listed' := #[true, true, true, true, true, false, false, false, false, false, false, false]) (by kernel_rfl) (fun _ _ _ h => h) (by kernel_rfl) (fun w' hR => by obtain ⟨x0, x1⟩ := HF.out w' hR; go_simp; first | done | with_reducible rfl) rfl ?_
      try simp only [Act.put, List.setIfInBounds_toArray, List.set_cons_zero, List.set_cons_succ]
      refine rk_take (fuel := 6) 5 rfl (by kernel_rfl) (listed' := #[true, true, true, true, true, true, false, false, false, false, false, false]) (by kernel_rfl) (fun _ _ _ h => h) (by kernel_rfl) (fun w' hR => by obtain ⟨x0, x1⟩ := HF.out w' hR; go_simp; first | done | with_reducible rfl) rfl ?_
      try simp only [Act.put, List.setIfInBounds_toArray, List.set_cons_zero, List.set_cons_succ]
      refine rk_take (fuel := 5) 6 rfl (by kernel_rfl) (listed' := #[true, true, true, true, true, true, true, false, false, false, false, false]) (by kernel_rfl) (fun _ _ _ h => h) (by kernel_rfl) (fun w' hR => by obtain ⟨x0, x1⟩ := HF.out w' hR; go_simp; first | done | with_reducible rfl) rfl ?_
      try simp only [Act.put, List.setIfInBounds_toArray, List.set_cons_zero, List.set_cons_succ]
      refine rk_take (fuel := 4) 7 rfl (by kernel_rfl) (listed' := #[true, true, true, true, true, true, true, true, false, false, false, false]) (by kernel_rfl) (fun _ _ _ h => h) (by kernel_rfl) (fun w' hR => by obtain ⟨x0, x1⟩ := HF.out w' hR; go_simp; first | done | with_reducible rfl) rfl ?_
      try simp only [Act.put, List.setIfInBounds_toArray, List.set_cons_zero, List.set_cons_succ]
      refine rk_take (fuel := 3) 8 rfl (by kernel_rfl) (listed' := #[true, true, true, true, true, true, true, true, true, false, false, false]) (by kernel_rfl) (fun _ _ _ h => h) (by kernel_rfl) (fun w' hR => by obtain ⟨x0, x1⟩ := HF.out w' hR; go_simp; first | done | with_reducible rfl) rfl ?_
      try simp only [Act.put, List.setIfInBounds_toArray, List.set_cons_zero, List.set_cons_succ]
      refine rk_take (fuel := 2) 9 rfl (by kernel_rfl) (listed' := #[true, true, true, true, true, true, true, true, true, true, false, false]) (by kernel_rfl) (fun _ _ _ h => h) (by kernel_rfl) (fun w' hR => by obtain ⟨x0, x1⟩ := HF.out w' hR; go_simp; first | done | with_reducible rfl) rfl ?_
      try simp only [Act.put, List.setIfInBounds_toArray, List.set_cons_zero, List.set_cons_succ]
      refine rk_take (fuel := 1) 10 rfl (by kernel_rfl) (listed' := #[true, true, true, true, true, true, true, true, true, true, true, false]) (by kernel_rfl) (fun _ _ _ h => h) (by kernel_rfl) (fun w' hR => by obtain ⟨x0, x1⟩ := HF.out w' hR; go_simp; first | done | with_reducible rfl) rfl ?_
      try simp only [Act.put, List.setIfInBounds_toArray, List.set_cons_zero, List.set_cons_succ]
      refine rk_step (fuel := 0) 11 rfl (by kernel_rfl) (listed' := #[true, true, true, true, true, true, true, true, true, true, true, true]) (by kernel_rfl) (by kernel_rfl) (fun K' hK => ?_)
      go_wp2_with (first | (go_at_call 32; refine (put_calls HSD.out (by omega) haV hbn true).mono ?_; rintro e w3 ⟨rfl, hs3, hk3⟩; have HS3 := Aside0.mk hs3; have HK3 := Aside0.mk hk3; have HK4 := Aside0.mk (HK.out.drew.trans hk3); clear hs3 hk3))
      refine hK.out _ _ HK3.out ?_
      clear hK K'
      try simp only [Act.put, List.setIfInBounds_toArray, List.set_cons_zero, List.set_cons_succ]
      refine rk_done (by kernel_rfl) ?_
      go_wp2
      go_roundw
      case rel =>
        refine ⟨k + 1, by omega, by go_num, ⟨HS3.out.congr fun v x hv hx => ?_⟩, HK4⟩
        rw [HP.out]
        unfold upd memF
        by_cases h1 : v = a ∧ x = b
        · obtain ⟨rfl, rfl⟩ := h1
          simp
        · rw [if_neg h1]
          congr 1
          rw [List.mem_append, List.mem_singleton, Prod.mk.injEq]
          apply propext
          constructor
          · exact .inl
          · rintro (h9 | h9)
            · exact h9
            · exact absurd ⟨by omega, by omega⟩ h1
      case measure => simp [intOf]; omega
    · have d0 : decide ((k : Int) < m) = false := decide_eq_false (by omega)
      obtain rfl : k = m := by omega
      have HSF := Aside0.mk HS.out
      rw [List.take_of_length_le (by rw [HM.out]; omega)] at HSF
      go_wp2_with fail
      go_ret
      exact ⟨g, h, rfl, HSF.out, Keep.below_then HB1.out HK.out HB1.out.size (fun i hi e => by omega)⟩
theorem set_calls (A : Option Addr) (c : Nat) (l : List Pr) (m : Nat) (hm : l.length = m) (hl : m ≤ 1000) (hbox : InBox 6 8 l) (w : World) (hC : kP.C w A m l) :
    Calls Try.prog 14 #[.slice A m c] w fun e w' => ∃ g h, e = .returned (.pointer (some ⟨g, 0, none⟩)) ∧ SetAt w' w.heap.size g h 6 8 48 (memF l) ∧ Below w.heap.size w w' := by
  have hcon := of_calls A c l m hm 6 8 48 rfl (by decide) (by decide) (by decide) hl hbox w hC
  clear hC
  go_enter Try.func14, Try.ntmps14
  go_wp2_with (first | (go_at_call 31; refine hcon.mono ?_; rintro e w1 ⟨g, h, rfl, hs, hb1⟩; have HS := Aside0.mk hs; have HB := Aside0.mk hb1; clear hs hb1))
  go_ret
  exact ⟨g, h, rfl, HS.out, HB.out⟩
end Go.Proofs.Ytmkkebllmmafmaa.Px
