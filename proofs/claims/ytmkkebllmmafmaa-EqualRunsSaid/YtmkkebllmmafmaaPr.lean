/- Right of the reference. -/
import Derived.Test.YtmkkebllmmafmaaPm
namespace Go.Proofs.Ytmkkebllmmafmaa.Pm
open Go.Sort Go.RowKit Go.Proofs.YtmkkebllmmafmaaW.PrintWords Go.Proofs.YtmkkebllmmafmaaW.PrintLast Go.Proofs.YtmkkebllmmafmaaW.PrintMore Go.Proofs.Ytmkkebllmmafmaa.B Go.Proofs.Ytmkkebllmmafmaa.Ps Go.Proofs.Ytmkkebllmmafmaa.R Go.Proofs.Ytmkkebllmmafmaa.Pk Go.Proofs.Ytmkkebllmmafmaa.Pa Go.Proofs.Ytmkkebllmmafmaa.S
set_option linter.unusedVariables false
set_option linter.unusedSimpArgs false
set_option maxHeartbeats 4000000 in
set_option maxRecDepth 100000 in
theorem rright_calls (A : Option Addr) (c : Nat) (l : List Pr) (n : Nat) (hn : l.length = n) (hl : n ≤ 1000000) (V N : Int) (b : Bool) (hb : b = true ↔ RightP l V N) (w : World) (hC : kP.C w A n l) :
    Calls Try.prog 13 #[.slice A n c, .int .i64 V, .int .i64 N] w fun e w' => e = .returned (.bool b) ∧ Below w.heap.size w w' := by
  have HBB := Aside0.mk hb
  clear hb
  have HC := Aside0.mk hC
  have HN := Aside0.mk hn
  have HB0 := Aside0.mk (Below.refl w.heap.size w)
  clear hC hn
  go_enter Try.func13, Try.ntmps13
  go_wp2_with fail
  go_loopw [7] (fun vi wr => ∃ k : Nat, k ≤ n ∧ vi = .int .i64 k ∧ Aside0 (Below w.heap.size w wr) ∧ Aside0 (∀ i, i < k → OkAt l V N i)) (fun vi _ => n - (intOf vi).toNat)
  case atStart => exact ⟨0, by omega, rfl, HB0, ⟨fun i hi => by omega⟩⟩
  case round =>
    clear HB0
    obtain ⟨k, hk, rfl, HB, HI⟩ := hrel
    by_cases hgo : k < n
    · have hkl : k < l.length := by rw [HN.out]; exact hgo
      obtain ⟨p, hp⟩ : ∃ p, l[k]? = some p := ⟨_, List.getElem?_eq_getElem hkl⟩
      obtain ⟨ad, rfl, h0, h1⟩ := P_get (Kd.C_below HC.out HB.out) hp
      have HP := Aside0.mk hp
      have HKL := Aside0.mk hkl
      clear hp hkl
      by_cases c0 : p.1 < 0
      · have d0 : decide (p.1 < 0) = true := decide_eq_true c0
        go_wp2_with fail
        go_ret
        have hbf : b = false := by
          rw [← Bool.not_eq_true, HBB.out]
          intro h
          exact absurd (h k HKL.out p HP.out).1 (by omega)
        exact ⟨by rw [hbf]; rfl, HB.out⟩
      have d0 : decide (p.1 < 0) = false := decide_eq_false c0
      by_cases c1 : V ≤ p.1
      · have d1 : decide (V ≤ p.1) = true := decide_eq_true c1
        go_wp2_with fail
        go_ret
        have hbf : b = false := by
          rw [← Bool.not_eq_true, HBB.out]
          intro h
          exact absurd (h k HKL.out p HP.out).1 (by omega)
        exact ⟨by rw [hbf]; rfl, HB.out⟩
      have d1 : decide (V ≤ p.1) = false := decide_eq_false c1
      by_cases c2 : p.2 < 0
      · have d2 : decide (p.2 < 0) = true := decide_eq_true c2
        go_wp2_with fail
        go_ret
        have hbf : b = false := by
          rw [← Bool.not_eq_true, HBB.out]
          intro h
          exact absurd (h k HKL.out p HP.out).1 (by omega)
        exact ⟨by rw [hbf]; rfl, HB.out⟩
      have d2 : decide (p.2 < 0) = false := decide_eq_false c2
      by_cases c3 : N ≤ p.2
      · have d3 : decide (N ≤ p.2) = true := decide_eq_true c3
        go_wp2_with fail
        go_ret
        have hbf : b = false := by
          rw [← Bool.not_eq_true, HBB.out]
          intro h
          exact absurd (h k HKL.out p HP.out).1 (by omega)
        exact ⟨by rw [hbf]; rfl, HB.out⟩
      have d3 : decide (N ≤ p.2) = false := decide_eq_false c3
      by_cases c4 : k = 0
      · have d4 : decide ((0 : Int) < (k : Int)) = false := decide_eq_false (by omega)
        have d4' : decide (0 < k) = false := decide_eq_false (by omega)
        have C4 := Aside0.mk c4
        clear c4
        go_wp2_with fail
        go_quiet (fail)
        go_wp2
        go_roundw
        case rel => exact ⟨k + 1, by omega, by go_num, ⟨belowN HB.out _⟩, ⟨fun i hi => by
          obtain rfl : i = k := by have := C4.out; omega
          intro p' hp'
          rw [HP.out] at hp'
          obtain rfl := Option.some.inj hp'
          exact ⟨by omega, fun q h0 => absurd h0 (by have := C4.out; omega)⟩⟩⟩
        case measure => simp [intOf]; omega
      obtain ⟨j, rfl⟩ : ∃ j, k = j + 1 := ⟨k - 1, by omega⟩
      have d4 : decide ((0 : Int) < ((j + 1 : Nat) : Int)) = true := decide_eq_true (by omega)
      have d4' : decide ((0 : Int) < (j : Int) + 1) = true := decide_eq_true (by omega)
      obtain ⟨q, hq⟩ : ∃ q, l[j]? = some q := ⟨_, List.getElem?_eq_getElem (by have := HKL.out; omega)⟩
      obtain ⟨ad', e', h2, h3⟩ := P_get (Kd.C_below HC.out HB.out) hq
      injection e' with e'
      subst e'
      have wk := wrI64 (j : Int) (by omega) (by omega)
      have hjn : j < n := by omega
      have HQ := Aside0.mk hq
      clear hq
      by_cases e0 : p.1 < q.1
      · have g0 : decide (p.1 < q.1) = true := decide_eq_true e0
        go_wp2_with fail
        go_quiet (fail)
        go_wp2
        go_ret
        have hbf : b = false := by
          rw [← Bool.not_eq_true, HBB.out]
          intro h
          have h9 := (h (j + 1) HKL.out p HP.out).2 q (by omega) (by rw [Nat.add_sub_cancel]; exact HQ.out)
          unfold lt at h9
          omega
        exact ⟨by rw [hbf]; rfl, belowN HB.out _⟩
      have g0 : decide (p.1 < q.1) = false := decide_eq_false e0
      by_cases e1 : p.1 = q.1
      · have g1 : (p.1 == q.1) = true := by simp [e1]
        by_cases e2 : p.2 ≤ q.2
        · have g2 : decide (p.2 ≤ q.2) = true := decide_eq_true e2
          go_wp2_with fail
          go_quiet (fail)
          go_wp2
          go_ret
          have hbf : b = false := by
            rw [← Bool.not_eq_true, HBB.out]
            intro h
            have h9 := (h (j + 1) HKL.out p HP.out).2 q (by omega) (by rw [Nat.add_sub_cancel]; exact HQ.out)
            unfold lt at h9
            omega
          exact ⟨by rw [hbf]; rfl, belowN HB.out _⟩
        · have g2 : decide (p.2 ≤ q.2) = false := decide_eq_false e2
          have HL := Aside0.mk (show lt q p from .inr ⟨e1.symm, by omega⟩)
          go_wp2_with fail
          go_quiet (fail)
          go_wp2
          go_roundw
          case rel => exact ⟨j + 1 + 1, by omega, by go_num, ⟨belowN HB.out _⟩, ⟨fun i hi => by
            rcases (by omega : i < j + 1 ∨ i = j + 1) with h | h
            · exact HI.out i h
            · subst h
              intro p' hp'
              rw [HP.out] at hp'
              obtain rfl := Option.some.inj hp'
              refine ⟨by omega, fun q' h0 hq' => ?_⟩
              rw [Nat.add_sub_cancel, HQ.out] at hq'
              obtain rfl := Option.some.inj hq'
              exact HL.out⟩⟩
          case measure => simp [intOf]; omega
      · have g1 : (p.1 == q.1) = false := by simp [e1]
        have HL := Aside0.mk (show lt q p from .inl (by omega))
        go_wp2_with fail
        go_quiet (fail)
        go_wp2
        go_roundw
        case rel => exact ⟨j + 1 + 1, by omega, by go_num, ⟨belowN HB.out _⟩, ⟨fun i hi => by
          rcases (by omega : i < j + 1 ∨ i = j + 1) with h | h
          · exact HI.out i h
          · subst h
            intro p' hp'
            rw [HP.out] at hp'
            obtain rfl := Option.some.inj hp'
            refine ⟨by omega, fun q' h0 hq' => ?_⟩
            rw [Nat.add_sub_cancel, HQ.out] at hq'
            obtain rfl := Option.some.inj hq'
            exact HL.out⟩⟩
        case measure => simp [intOf]; omega
    · go_wp2_with fail
      go_ret
      have hbt : b = true := HBB.out.2 fun i hi => HI.out i (by rw [HN.out] at hi; omega)
      exact ⟨by rw [hbt]; rfl, HB.out⟩
end Go.Proofs.Ytmkkebllmmafmaa.Pm
