/- What the calls of package leb, and of its reference, come to. -/
import Derived.Test.YtfcpnjoiloahcaaLs
import Derived.Test.YtfcpnjoiloahcaaProg
namespace Go.Proofs.Ytfcpnjoiloahcaa.Lc
open Go.RowKit Go.Proofs.YtfcpnjoiloahcaaW.PrintWords Go.Proofs.YtfcpnjoiloahcaaW.PrintLast Go.Proofs.YtfcpnjoiloahcaaW.PrintMore Go.Proofs.Ytfcpnjoiloahcaa.B Go.Proofs.Ytfcpnjoiloahcaa.Ls
set_option linter.unusedVariables false
set_option linter.unusedSimpArgs false
theorem infoU8 : (Try.prog.info? 5).map (fun i => (i.zero, i.size, i.bytes)) = some (some (.int .u8 0), 1, 1) := by kernel_rfl

/-! ### leb.Reader -/
theorem fail_calls (g b : Nat) (l : List Int) (code n : Int) (w : World) (h : Rdr 122 w g b l code) :
    Calls Try.prog 70 #[.pointer (some ⟨g, 0, none⟩), .int .i64 n] w fun e w' => e = .returned (.tuple #[]) ∧ Rdr 122 w' g b l (failed n code) ∧ Keep (· = g) w w' ∧ w'.heap.size = w.heap.size := by
  have HR := Aside0.mk h
  obtain ⟨A, c, hb, -⟩ := h
  have hc1 : w.cell? ⟨g, 1, none⟩ = some (.int .i64 code) := by simp [World.cell?, hb]
  have hf1 := blk_frozen hb 1
  clear hb
  by_cases h0 : code = 0
  · have h1 : (code == 0) = true := beq_iff_eq.mpr h0
    have h2 : failed n code = n := if_pos h0
    have H2 := Aside0.mk h2
    clear h0 h2
    go_enter Try.func70, Try.ntmps70
    go_wp2
    first | go_end0 | ((try simp only [Exit.inBlock, Exit.then]); refine bodyPost_ret (results_none rfl _ _ _) rfl ?_)
    exact ⟨rfl, by rw [H2.out]; exact HR.out.set n, (Keep.refl _ _).setCell _ _ (fun _ => rfl), by simp [World.setCell]⟩
  · have h1 : (code == 0) = false := beq_eq_false_iff_ne.mpr h0
    have h2 : failed n code = code := if_neg h0
    have H2 := Aside0.mk h2
    clear h0 h2
    go_enter Try.func70, Try.ntmps70
    go_wp2
    first | go_end0 | ((try simp only [Exit.inBlock, Exit.then]); refine bodyPost_ret (results_none rfl _ _ _) rfl ?_)
    exact ⟨rfl, by rw [H2.out]; exact HR.out, Keep.refl _ _, rfl⟩

set_option maxRecDepth 100000 in
set_option maxHeartbeats 4000000 in
theorem num_calls (g b : Nat) (l : List Int) (code : Int) (w : World) (h : Rdr 122 w g b l code) (hby : By l) :
    Calls Try.prog 56 #[.pointer (some ⟨g, 0, none⟩)] w fun e w' => e = .returned (.int .u64 (num l code).1) ∧ Rdr 122 w' g b (num l code).2.1 (num l code).2.2 ∧ Keep (· = g) w w' ∧ w'.heap.size = w.heap.size := by
  have HR := Aside0.mk h
  obtain ⟨A, c, hb, hlc, hA, hC, hne⟩ := h
  have hc0 : w.cell? ⟨g, 0, none⟩ = some (.slice A l.length c) := by simp [World.cell?, hb]
  have hc1 : w.cell? ⟨g, 1, none⟩ = some (.int .i64 code) := by simp [World.cell?, hb]
  have hf0 := blk_frozen hb 0
  have HB := Aside0.mk hb
  have HC := Aside0.mk hC
  have HA := Aside0.mk hA
  have HY := Aside0.mk hby
  clear hb hC hA hby
  by_cases h0 : code = 0
  · subst h0
    have HN : Aside0 (num l 0 = numGo l (l.drop 0) 0 0) := ⟨rfl⟩
    have hmax : l.length ≤ 9223372036854775807 := HC.out.2.1
    go_enter Try.func56, Try.ntmps56
    go_wp2
    go_loopw [3, 4] (fun n i wr => ∃ (k : Nat) (N : Int), k ≤ l.length + 1 ∧ i = .int .i64 k ∧ n = .int .u64 N ∧ Aside0 ((k ≤ l.length ∧ k ≤ 9 ∧ 0 ≤ N ∧ N < 128 ^ k ∧ num l 0 = numGo l (l.drop k) k N ∧ wr = w) ∨ (∃ e, e ≠ 0 ∧ num l 0 = (0, l, e) ∧ Rdr 122 wr g b l e ∧ Keep (· = g) w wr ∧ wr.heap.size = w.heap.size))) (fun _ i _ => l.length + 1 - (intOf i).toNat)
    case atStart => exact ⟨0, 0, by omega, rfl, rfl, ⟨.inl ⟨by omega, by omega, by decide, by decide, HN.out, rfl⟩⟩⟩
    case round =>
      clear HN
      obtain ⟨k, N, hk1, rfl, rfl, HD⟩ := hrel
      rcases HD.out with ⟨hk, hk9, hN0, hN1, hN, rfl⟩ | ⟨e, he, hN, hr, hkp, hsz⟩
      · clear HD
        by_cases hlt : k < l.length
        · obtain ⟨ad, rfl⟩ := C_some HC.out (by omega)
          obtain ⟨x, hx⟩ : ∃ x, l[k]? = some x := ⟨_, List.getElem?_eq_getElem hlt⟩
          have hcx := C_cell HC.out hx
          obtain ⟨hx0, hx1⟩ := HY.out.at hx
          have hd : l.drop k = x :: l.drop (k + 1) := by rw [List.drop_eq_getElem_cons hlt]; congr 1; simpa [List.getElem?_eq_getElem hlt] using hx
          rw [hd, numGo] at hN
          clear hd
          have HX := Aside0.mk hx
          clear hx
          by_cases hb1 : (k = 9 ∧ 1 < x) ∨ (0 < k ∧ x = 0)
          · rw [if_pos hb1] at hN
            have HN := Aside0.mk hN
            clear hN
            by_cases h9 : k = 9 ∧ 1 < x
            · have h9a : ((k : Int) == 9) = true := by rw [beq_iff_eq]; omega
              have h9b : decide (1 < x) = true := by simp; omega
              clear hb1 h9
              go_wp2_with (first | (go_at_call 70; refine (fail_calls g b l 0 8 _ HR.out).mono ?_; rintro e w1 ⟨rfl, hr1, hk1, hs1⟩))
              go_roundw
              case rel => exact ⟨k + 1, N, by omega, by go_num, rfl, ⟨.inr ⟨8, by decide, HN.out, hr1, hk1, hs1⟩⟩⟩
              case measure => simp [intOf]; omega
            · have h9a : 0 < k := by omega
              have h9c : x = 0 := by omega
              subst h9c
              by_cases h9 : k = 9
              · have h9a : ((k : Int) == 9) = true := by rw [beq_iff_eq]; omega
                clear hb1 h9
                go_wp2_with (first | (go_at_call 70; refine (fail_calls g b l 0 8 _ HR.out).mono ?_; rintro e w1 ⟨rfl, hr1, hk1, hs1⟩))
                go_roundw
                case rel => exact ⟨k + 1, N, by omega, by go_num, rfl, ⟨.inr ⟨8, by decide, HN.out, hr1, hk1, hs1⟩⟩⟩
                case measure => simp [intOf]; omega
              · have h9a : ((k : Int) == 9) = false := by rw [beq_eq_false_iff_ne]; omega
                clear hb1 h9
                go_wp2_with (first | (go_at_call 70; refine (fail_calls g b l 0 8 _ HR.out).mono ?_; rintro e w1 ⟨rfl, hr1, hk1, hs1⟩))
                go_roundw
                case rel => exact ⟨k + 1, N, by omega, by go_num, rfl, ⟨.inr ⟨8, by decide, HN.out, hr1, hk1, hs1⟩⟩⟩
                case measure => simp [intOf]; omega
          · rw [if_neg hb1] at hN
            have hw := wraps_u64 x hx0 (by rw [two64]; omega)
            have hN2 : N < 18446744073709551616 := by
              have := pow_le k 9 hk9
              rw [pow9] at this
              omega
            have key : (((k : Int) == 9) = true ∧ decide (1 < x) = false ∧ 0 < k ∧ (x == 0) = false) ∨ (((k : Int) == 9) = false ∧ 0 < k ∧ (x == 0) = false) ∨ (((k : Int) == 9) = false ∧ ¬ 0 < k) := by
              by_cases h9 : k = 9
              · exact .inl ⟨by rw [beq_iff_eq]; omega, by simp; omega, by omega, by rw [beq_eq_false_iff_ne]; omega⟩
              · by_cases hp : 0 < k
                · exact .inr (.inl ⟨by rw [beq_eq_false_iff_ne]; omega, hp, by rw [beq_eq_false_iff_ne]; omega⟩)
                · exact .inr (.inr ⟨by rw [beq_eq_false_iff_ne]; omega, hp⟩)
            by_cases h128 : x < 128
            · rw [if_pos h128] at hN
              have hmx := go_max k hk9 x hx0 h128 (by omega)
              have hv := or_add k N x hN0 hN1 hN2 hx0 hmx
              obtain ⟨i5, hi5, -, hi5s, -⟩ := info_ex infoU8
              obtain ⟨A', hrun, hC', hblk, hlc'⟩ := sl_from kU8 24 5 .i64 Try.underlying24 hi5 (some ad) c l hi5s ((k : Int) + 1) (by omega) (by omega) hlc
              rw [show ((k : Int) + 1).toNat = k + 1 by omega] at hrun hC' hlc'
              have HN := Aside0.mk hN
              have HW := Aside0.mk hw
              have HV := Aside0.mk hv
              have HC' := Aside0.mk (hC' _ HC.out)
              have HBL := Aside0.mk hblk
              have HMX := Aside0.mk hmx
              have HN1 := Aside0.mk hN1
              clear hN hw hv hC' hblk hi5 hi5s hb1 hmx hN1 hN2
              rcases key with ⟨f1, f2, f3, f4⟩ | ⟨f1, f3, f4⟩ | ⟨f1, f3⟩
              all_goals
                go_wp2
                go_ret
                refine ⟨ret_eq ?_, ?_, (Keep.refl _ _).setCell _ _ (fun _ => rfl), by simp [World.setCell]⟩
                · rw [HV.out, HN.out]
                · rw [HN.out]; have hcut := Rdr.cut HB.out HA.out hne hlc' HBL.out HC'.out
                  rw [List.length_drop] at hcut
                  exact hcut
            · rw [if_neg h128] at hN
              have hv := or_add k N (x - 128) hN0 hN1 hN2 (by omega) (go_max k hk9 (x - 128) (by omega) (by omega) (by omega))
              have hlt2 := go_lt k N (x - 128) hN1 (by omega)
              have hn0 : 0 ≤ N + (x - 128) * 128 ^ k := by
                have := Int.mul_nonneg (show 0 ≤ x - 128 by omega) (Int.le_of_lt (pow_pos k))
                omega
              have hw2 := wraps_u64 (x - 128) (by omega) (by rw [two64]; omega)
              have ha := and127 x (by omega) hx1
              have hk8 : k < 9 := by omega
              have HN := Aside0.mk hN
              have HW := Aside0.mk hw2
              have HV := Aside0.mk hv
              have HA2 := Aside0.mk ha
              have HLT := Aside0.mk hlt2
              have HN0 := Aside0.mk hn0
              clear hN hw hw2 hv ha hlt2 hb1 hN1 hN2 hn0
              rcases key with ⟨f1, f2, f3, f4⟩ | ⟨f1, f3, f4⟩ | ⟨f1, f3⟩
              all_goals
                go_wp2
                go_roundw
                case rel => exact ⟨k + 1, _, by omega, by go_num, by first | rw [HA2.out, HV.out] | rw [HA2.out, HW.out, HV.out], ⟨.inl ⟨by omega, by omega, HN0.out, HLT.out, HN.out, by first | rfl | trivial⟩⟩⟩
                case measure => simp [intOf]; omega
        · have hkl : k = l.length := by omega
          have hd : l.drop k = [] := by rw [List.drop_eq_nil_iff]; omega
          rw [hd, numGo] at hN
          have HN := Aside0.mk hN
          clear hd hN hN1
          have hge : l.length ≤ k := by omega
          clear hkl
          go_wp2_with (first | (go_at_call 70; refine (fail_calls g b l 0 3 _ HR.out).mono ?_; rintro e w1 ⟨rfl, hr1, hk1, hs1⟩))
          go_roundw
          case rel => exact ⟨k + 1, N, by omega, by go_num, rfl, ⟨.inr ⟨3, by decide, HN.out, hr1, hk1, hs1⟩⟩⟩
          case measure => simp [intOf]; omega
      · clear HD
        have HN := Aside0.mk hN
        have HR2 := Aside0.mk hr
        have HK := Aside0.mk hkp
        have HS := Aside0.mk hsz
        obtain ⟨A2, c2, hb2, -⟩ := hr
        have hc2 : wr.cell? ⟨g, 1, none⟩ = some (.int .i64 e) := by simp [World.cell?, hb2]
        have he2 : (e == 0) = false := beq_eq_false_iff_ne.mpr he
        clear hN hkp hsz hb2 he hc0 hc1
        go_wp2
        go_ret
        exact ⟨ret_eq (by rw [HN.out]), by rw [HN.out]; exact HR2.out, HK.out, HS.out⟩
  · have h1 : (code == 0) = false := beq_eq_false_iff_ne.mpr h0
    have h2 : num l code = (0, l, code) := if_neg h0
    have H2 := Aside0.mk h2
    clear h0 h2
    go_enter Try.func56, Try.ntmps56
    go_wp2
    go_loopw [3, 4] (fun n i wr => ∃ k : Nat, n = .int .u64 0 ∧ i = .int .i64 0 ∧ wr = w) (fun _ i _ => 0)
    case atStart => exact ⟨0, rfl, rfl, rfl⟩
    case round =>
      obtain ⟨-, rfl, rfl, rfl⟩ := hrel
      go_wp2
      go_ret
      exact ⟨ret_eq (by rw [H2.out]), by rw [H2.out]; exact HR.out, Keep.refl _ _, rfl⟩
end Go.Proofs.Ytfcpnjoiloahcaa.Lc
