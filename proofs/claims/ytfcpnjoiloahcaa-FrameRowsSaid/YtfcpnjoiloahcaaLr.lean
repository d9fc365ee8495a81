/- What the calls of the reference's reader, and its Put, come to: the same words. -/
import Derived.Test.YtfcpnjoiloahcaaLc
namespace Go.Proofs.Ytfcpnjoiloahcaa.Lr
open Go.RowKit Go.Proofs.YtfcpnjoiloahcaaW.PrintWords Go.Proofs.YtfcpnjoiloahcaaW.PrintLast Go.Proofs.YtfcpnjoiloahcaaW.PrintMore Go.Proofs.Ytfcpnjoiloahcaa.B Go.Proofs.Ytfcpnjoiloahcaa.Ls Go.Proofs.Ytfcpnjoiloahcaa.Lc
set_option linter.unusedVariables false
set_option linter.unusedSimpArgs false

set_option maxRecDepth 100000 in
set_option maxHeartbeats 4000000 in
theorem num_calls (g b : Nat) (l : List Int) (code : Int) (w : World) (h : Rdr 95 w g b l code) (hby : By l) :
    Calls Try.prog 60 #[.pointer (some ⟨g, 0, none⟩)] w fun e w' => e = .returned (.int .u64 (num l code).1) ∧ Rdr 95 w' g b (num l code).2.1 (num l code).2.2 ∧ Keep (· = g) w w' ∧ w'.heap.size = w.heap.size := by
  have HR := Aside0.mk h
  obtain ⟨A, c, hc0, hf0, hb, hlc, hA, hC, hne⟩ := h.left
  obtain ⟨hc1, hf1⟩ := h.code
  have HB := Aside0.mk hb
  have HC := Aside0.mk hC
  have HA := Aside0.mk hA
  have HY := Aside0.mk hby
  clear hb hC hA hby h
  by_cases h0 : code = 0
  · subst h0
    have HN : Aside0 (num l 0 = numGo l (l.drop 0) 0 0) := ⟨rfl⟩
    have hmax : l.length ≤ 9223372036854775807 := HC.out.2.1
    go_enter Try.func60, Try.ntmps60
    go_wp2
    go_loopw [3, 4, 5] (fun n u i wr => ∃ (k : Nat) (N U : Int), k ≤ l.length ∧ k ≤ 9 ∧ 0 ≤ N ∧ i = .int .i64 k ∧ n = .int .u64 N ∧ u = .int .u64 U ∧ 0 < U ∧ U ≤ 9223372036854775808 ∧ Aside0 (U = 128 ^ k ∧ N < 128 ^ k ∧ num l 0 = numGo l (l.drop k) k N) ∧ wr = w) (fun _ _ i _ => l.length - (intOf i).toNat)
    case atStart => exact ⟨0, 0, 1, by omega, by omega, by decide, rfl, rfl, rfl, by decide, by decide, ⟨by decide, by decide, HN.out⟩, rfl⟩
    case round =>
      clear HN
      obtain ⟨k, N, U, hk, hk9, hN0, rfl, rfl, rfl, hU0, hU1, HN, rfl⟩ := hrel
      by_cases hlt : k < l.length
      · obtain ⟨ad, rfl⟩ := C_some HC.out (by omega)
        obtain ⟨x, hx⟩ : ∃ x, l[k]? = some x := ⟨_, List.getElem?_eq_getElem hlt⟩
        have hcx := C_cell HC.out hx
        obtain ⟨hx0, hx1⟩ := HY.out.at hx
        have hd : l.drop k = x :: l.drop (k + 1) := by rw [List.drop_eq_getElem_cons hlt]; congr 1; simpa [List.getElem?_eq_getElem hlt] using hx
        obtain ⟨hU, hN1, hN⟩ := HN.out
        rw [hd, numGo] at hN
        have hkl : ((k : Int) == (l.length : Int)) = false := by rw [beq_eq_false_iff_ne]; omega
        clear hd HN hx
        by_cases hb1 : (k = 9 ∧ 1 < x) ∨ (0 < k ∧ x = 0)
        · rw [if_pos hb1] at hN
          have HN := Aside0.mk hN
          clear hN hU hN1
          have key : (((k : Int) == 9) = true ∧ decide (1 < x) = true) ∨ (((k : Int) == 9) = true ∧ decide (1 < x) = false ∧ 0 < k ∧ (x == 0) = true) ∨ (((k : Int) == 9) = false ∧ 0 < k ∧ (x == 0) = true) := by
            by_cases h9 : k = 9
            · by_cases h1 : 1 < x
              · exact .inl ⟨by rw [beq_iff_eq]; omega, by simp; omega⟩
              · exact .inr (.inl ⟨by rw [beq_iff_eq]; omega, by simp; omega, by omega, by rw [beq_iff_eq]; omega⟩)
            · exact .inr (.inr ⟨by rw [beq_eq_false_iff_ne]; omega, by omega, by rw [beq_iff_eq]; omega⟩)
          clear hb1
          rcases key with ⟨f1, f2⟩ | ⟨f1, f2, f3, f4⟩ | ⟨f1, f3, f4⟩
          all_goals
            go_wp2
            go_ret
            exact ⟨ret_eq (by rw [HN.out]), by rw [HN.out]; exact HR.out.set 8, (Keep.refl _ _).setCell _ _ (fun _ => rfl), by simp [World.setCell]⟩
        · rw [if_neg hb1] at hN
          have key : (((k : Int) == 9) = true ∧ decide (1 < x) = false ∧ 0 < k ∧ (x == 0) = false) ∨ (((k : Int) == 9) = false ∧ 0 < k ∧ (x == 0) = false) ∨ (((k : Int) == 9) = false ∧ ¬ 0 < k) := by
            by_cases h9 : k = 9
            · exact .inl ⟨by rw [beq_iff_eq]; omega, by simp; omega, by omega, by rw [beq_eq_false_iff_ne]; omega⟩
            · by_cases hp : 0 < k
              · exact .inr (.inl ⟨by rw [beq_eq_false_iff_ne]; omega, hp, by rw [beq_eq_false_iff_ne]; omega⟩)
              · exact .inr (.inr ⟨by rw [beq_eq_false_iff_ne]; omega, hp⟩)
          have hmx := go_max k hk9 (x % 128) (by omega) (by omega) (by omega)
          have hnn := Int.mul_nonneg (show 0 ≤ x % 128 by omega) (Int.le_of_lt hU0)
          have hgl := go_lt k N (x % 128) hN1 (by omega)
          rw [← hU] at hmx hgl
          have htop : N + x % 128 * U < 18446744073709551616 := by
            rcases Nat.lt_or_eq_of_le hk9 with h8 | rfl
            · have := pow_le (k + 1) 9 h8
              rw [pow9] at this
              omega
            · have hU9 : U = 9223372036854775808 := by rw [hU, pow9]
              rw [pow9] at hN1
              have : x % 128 ≤ 1 := by omega
              have := Int.mul_le_mul_of_nonneg_right this (Int.le_of_lt hU0)
              omega
          have hw1 := wraps_u64 (x % 128 * U) hnn (by rw [two64]; exact hmx)
          have hw2 := wraps_u64 (N + x % 128 * U) (by omega) (by rw [two64]; exact htop)
          by_cases h128 : x < 128
          · rw [if_pos h128, ← hU] at hN
            have hxm : x % 128 = x := by omega
            obtain ⟨i5, hi5, -, hi5s, -⟩ := info_ex infoU8
            obtain ⟨A', hrun, hC', hblk, hlc'⟩ := sl_from kU8 24 5 .i64 Try.underlying24 hi5 (some ad) c l hi5s ((k : Int) + 1) (by omega) (by omega) hlc
            rw [show ((k : Int) + 1).toNat = k + 1 by omega] at hrun hC' hlc'
            have HN := Aside0.mk hN
            have HM := Aside0.mk hxm
            have HC' := Aside0.mk (hC' _ HC.out)
            have HBL := Aside0.mk hblk
            have HW1 := Aside0.mk hw1
            have HW2 := Aside0.mk hw2
            clear hN hC' hblk hi5 hi5s hb1 hmx hN1 hnn hgl htop hxm hU hw1 hw2
            rcases key with ⟨f1, f2, f3, f4⟩ | ⟨f1, f3, f4⟩ | ⟨f1, f3⟩
            all_goals
              go_wp2
              go_ret
              refine ⟨ret_eq ?_, ?_, (Keep.refl _ _).setCell _ _ (fun _ => rfl), by simp [World.setCell]⟩
              · rw [HN.out]; first | (simp only [HW1.out, HW2.out, HM.out]; done) | (simp only [HM.out] at *; simp only [HW1.out, HW2.out])
              · have hcut := Rdr.cut HB.out HA.out hne hlc' HBL.out HC'.out
                rw [List.length_drop] at hcut
                rw [HN.out]; exact hcut
          · rw [if_neg h128, ← hU] at hN
            have hxm : x % 128 = x - 128 := by omega
            have hk8 : k < 9 := by omega
            have hU2 : U * 128 = 128 ^ (k + 1) := by rw [Int.pow_succ, hU]
            have hU3 : U * 128 ≤ 9223372036854775808 := by
              have := pow_le (k + 1) 9 hk8
              rw [pow9] at this
              omega
            have HN := Aside0.mk hN
            have HM := Aside0.mk hxm
            have HG := Aside0.mk hgl
            have HU := Aside0.mk hU2
            have HNN := Aside0.mk hnn
            have HW1 := Aside0.mk hw1
            have HW2 := Aside0.mk hw2
            clear hN hb1 hmx hN1 hnn hgl htop hxm hU hU2 hw1 hw2
            rcases key with ⟨f1, f2, f3, f4⟩ | ⟨f1, f3, f4⟩ | ⟨f1, f3⟩
            all_goals
              go_wp2
              go_roundw
              case rel => exact ⟨k + 1, N + x % 128 * U, U * 128, by omega, by omega, by have := HNN.out; omega, by go_num, by first | rw [HW1.out, HW2.out] | rfl, rfl, by omega, by omega, ⟨HU.out, HG.out, by rw [HM.out]; exact HN.out⟩, by first | rfl | trivial⟩
              case measure => simp [intOf]; omega
      · have hkl : ((k : Int) == (l.length : Int)) = true := by rw [beq_iff_eq]; omega
        have hd : l.drop k = [] := by rw [List.drop_eq_nil_iff]; omega
        have hN := HN.out.2.2
        rw [hd, numGo] at hN
        have HN := Aside0.mk hN
        clear hd hN
        go_wp2
        go_ret
        exact ⟨ret_eq (by rw [HN.out]), by rw [HN.out]; exact HR.out.set 3, (Keep.refl _ _).setCell _ _ (fun _ => rfl), by simp [World.setCell]⟩
  · have h1 : (code != 0) = true := bne_iff_ne.mpr h0
    have h2 : num l code = (0, l, code) := if_neg h0
    have H2 := Aside0.mk h2
    clear h0 h2
    go_enter Try.func60, Try.ntmps60
    go_wp2
    go_ret
    exact ⟨ret_eq (by rw [H2.out]), by rw [H2.out]; exact HR.out, Keep.refl _ _, rfl⟩
end Go.Proofs.Ytfcpnjoiloahcaa.Lr
