/- What holds at the beginning: the reference. -/
import Derived.Test.YtmkkebllmmafmaaPt
namespace Go.Proofs.Ytmkkebllmmafmaa.Pt
open Go.Sort Go.RowKit Go.Proofs.YtmkkebllmmafmaaW.PrintWords Go.Proofs.YtmkkebllmmafmaaW.PrintLast Go.Proofs.YtmkkebllmmafmaaW.PrintMore Go.Proofs.Ytmkkebllmmafmaa.B Go.Proofs.Ytmkkebllmmafmaa.Ps Go.Proofs.Ytmkkebllmmafmaa.R Go.Proofs.Ytmkkebllmmafmaa.Pk Go.Proofs.Ytmkkebllmmafmaa.Pa Go.Proofs.Ytmkkebllmmafmaa.Pm Go.Proofs.Ytmkkebllmmafmaa.Pw Go.Proofs.Ytmkkebllmmafmaa.Pd Go.Proofs.Ytmkkebllmmafmaa.Pg Go.Proofs.Ytmkkebllmmafmaa.Px Go.Proofs.Ytmkkebllmmafmaa.S
set_option linter.unusedVariables false
set_option linter.unusedSimpArgs false
/-- As far as (k, j). -/
def fUpto (f : Nat → Nat → Bool) (k j : Nat) : Nat → Nat → Bool := fun a b => if a < k ∨ a = k ∧ b < j then f a b else false
theorem fUpto_put (f : Nat → Nat → Bool) (k j a b : Nat) : upd (fUpto f k j) k j (f k j) a b = fUpto f k (j + 1) a b := by
  unfold upd fUpto
  by_cases h : a = k ∧ b = j
  · obtain ⟨rfl, rfl⟩ := h
    simp
  · rw [if_neg h]
    have : (a < k ∨ a = k ∧ b < j) ↔ (a < k ∨ a = k ∧ b < j + 1) := by omega
    simp only [this]
theorem fUpto_row (f : Nat → Nat → Bool) (k n a b : Nat) (hb : b < n) : fUpto f k n a b = fUpto f (k + 1) 0 a b := by
  unfold fUpto
  have : (a < k ∨ a = k ∧ b < n) ↔ (a < k + 1 ∨ a = k + 1 ∧ b < 0) := by omega
  simp only [this]
set_option maxHeartbeats 4000000 in
set_option maxRecDepth 100000 in
theorem rfirst_calls (p V R S n N : Nat) (hn : n = R + S) (hN : N = V * n) (hV : V ≤ 15) (hp : p ≤ 30) (hR : R ≤ 30) (hS : S ≤ 30) (w : World) :
    Calls Try.prog 24 #[.int .i64 p, .int .i64 V, .int .i64 R, .int .i64 S] w fun e w' => ∃ g h, e = .returned (.pointer (some ⟨g, 0, none⟩)) ∧ SetAt w' w.heap.size g h V n N (fFirst p R) ∧ Below w.heap.size w w' := by
  have hns : ((R : Int) + (S : Int)) = (n : Int) := by omega
  have hn60 : n ≤ 60 := by omega
  have hN9 : N ≤ 900 := by have := mul_le hV hn60; omega
  have HNN := Aside0.mk hn
  have HNM := Aside0.mk hN
  clear hn hN
  go_enter Try.func24, Try.ntmps24
  go_wp2_with (first | (go_at_call 29; refine (new_calls V n N HNM.out (by omega) (by omega) (by omega) w).mono ?_; rintro e w1 ⟨g, h, rfl, hs, hb1⟩; have HS0 := Aside0.mk (hs.congr (f' := fUpto (fFirst p R) 0 0) (fun v l _ _ => by simp [fUpto])); have HK0 := Aside0.mk (Keep.refl (· = h) w1); have HB1 := Aside0.mk hb1; have HHB := Aside0.mk hs.hb; clear hs hb1))
  go_loopw [10] (fun vk wr => ∃ k : Nat, k ≤ V ∧ vk = .int .i64 k ∧ Aside0 (SetAt wr w.heap.size g h V n N (fUpto (fFirst p R) k 0)) ∧ Aside0 (Keep (· = h) w1 wr)) (fun vk _ => V - (intOf vk).toNat)
  case atStart => exact ⟨0, by omega, rfl, HS0, HK0⟩
  case round =>
    clear HS0 HK0
    obtain ⟨k, hk, rfl, HS, HK⟩ := hrel
    by_cases hgo : k < V
    · have d0 : decide ((k : Int) < V) = true := decide_eq_true (by omega)
      go_wp2_with fail
      go_loopw [11] (fun vl wz => ∃ l : Nat, l ≤ n ∧ vl = .int .i64 l ∧ Aside0 (SetAt wz w.heap.size g h V n N (fUpto (fFirst p R) k l)) ∧ Aside0 (Keep (· = h) w1 wz)) (fun vl _ => n - (intOf vl).toNat)
      case atStart => exact ⟨0, by omega, rfl, HS, HK⟩
      case round =>
        clear HS HK
        obtain ⟨l, hl, rfl, HS, HK⟩ := hrel
        by_cases hgo2 : l < n
        · have d1 : decide ((l : Int) < n) = true := decide_eq_true (by omega)
          have hcon := fun r => put_calls HS.out (by omega) hgo hgo2 r
          have HLN := Aside0.mk hgo2
          by_cases c1 : k < p
          · have d2 : decide ((k : Int) < p) = true := decide_eq_true (by omega)
            have d2' : decide (k < p) = true := decide_eq_true c1
            obtain ⟨rk, hrk⟩ : ∃ rk : Nat, (R : Int) + (k : Int) = (rk : Int) := ⟨R + k, by omega⟩
            have hrb : rk ≤ 60 := by omega
            obtain ⟨r, hr⟩ : ∃ r, ((l : Int) == (rk : Int)) = r := ⟨_, rfl⟩
            have hr2 : (l == rk) = r := by rw [← hr, Bool.eq_iff_iff]; simp only [beq_iff_eq]; omega
            have HF := Aside0.mk (show fFirst p R k l = r from by
              rw [← hr]
              simp only [fFirst, if_pos c1]
              rw [Bool.eq_iff_iff]
              simp only [decide_eq_true_eq, beq_iff_eq]
              omega)
            clear c1
            go_wp2_with (first | (go_at_call 32; refine (hcon r).mono ?_; rintro e w3 ⟨rfl, hs3, hk3⟩; have HS3 := Aside0.mk hs3; have HK3 := Aside0.mk (HK.out.trans hk3); clear hs3 hk3))
            go_roundw
            case rel => exact ⟨l + 1, HLN.out, by go_num, ⟨HS3.out.congr fun a b _ _ => by rw [← HF.out]; exact fUpto_put _ _ _ _ _⟩, HK3⟩
            case measure => have := HLN.out; simp [intOf]; omega
          · have d2 : decide ((k : Int) < p) = false := decide_eq_false (by omega)
            have d2' : decide (k < p) = false := decide_eq_false c1
            obtain ⟨rp, hrp⟩ : ∃ rp : Nat, (R : Int) + (p : Int) = (rp : Int) := ⟨R + p, by omega⟩
            have hrb : rp ≤ 60 := by omega
            by_cases c2 : l < R
            · have d5 : decide ((l : Int) < R) = true := decide_eq_true (by omega)
              have d5' : decide (l < R) = true := decide_eq_true c2
              have HF := Aside0.mk (show fFirst p R k l = true from by simp [fFirst, c1, c2])
              clear c1 c2
              go_wp2_with (first | (go_at_call 32; refine (hcon true).mono ?_; rintro e w3 ⟨rfl, hs3, hk3⟩; have HS3 := Aside0.mk hs3; have HK3 := Aside0.mk (HK.out.trans hk3); clear hs3 hk3))
              go_roundw
              case rel => exact ⟨l + 1, HLN.out, by go_num, ⟨HS3.out.congr fun a b _ _ => by rw [← HF.out]; exact fUpto_put _ _ _ _ _⟩, HK3⟩
              case measure => have := HLN.out; simp [intOf]; omega
            · have d5 : decide ((l : Int) < R) = false := decide_eq_false (by omega)
              have d5' : decide (l < R) = false := decide_eq_false c2
              obtain ⟨r, hr⟩ : ∃ r, decide ((rp : Int) ≤ (l : Int)) = r := ⟨_, rfl⟩
              have hr2 : decide (rp ≤ l) = r := by rw [← hr, Bool.eq_iff_iff]; simp only [decide_eq_true_eq]; omega
              have HF := Aside0.mk (show fFirst p R k l = r from by
                rw [← hr]
                simp only [fFirst, if_neg c1]
                rw [Bool.eq_iff_iff]
                simp only [decide_eq_true_eq]
                omega)
              clear c1 c2
              go_wp2_with (first | (go_at_call 32; refine (hcon r).mono ?_; rintro e w3 ⟨rfl, hs3, hk3⟩; have HS3 := Aside0.mk hs3; have HK3 := Aside0.mk (HK.out.trans hk3); clear hs3 hk3))
              go_roundw
              case rel => exact ⟨l + 1, HLN.out, by go_num, ⟨HS3.out.congr fun a b _ _ => by rw [← HF.out]; exact fUpto_put _ _ _ _ _⟩, HK3⟩
              case measure => have := HLN.out; simp [intOf]; omega
        · have d1 : decide ((l : Int) < n) = false := decide_eq_false (by omega)
          obtain rfl : l = n := by omega
          go_wp2_with fail
          go_roundw
          case rel => exact ⟨k + 1, by omega, by go_num, ⟨HS.out.congr fun a b _ hb => fUpto_row _ _ _ _ _ hb⟩, HK⟩
          case measure => simp [intOf]; omega
    · have d0 : decide ((k : Int) < V) = false := decide_eq_false (by omega)
      obtain rfl : k = V := by omega
      have HSF := Aside0.mk (HS.out.congr (f' := fFirst p R) fun a b ha _ => by unfold fUpto; rw [if_pos (.inl ha)])
      go_wp2_with fail
      go_ret
      exact ⟨g, h, rfl, HSF.out, Keep.below_then HB1.out HK.out HB1.out.size (fun i hi e => by have := HHB.out; omega)⟩
end Go.Proofs.Ytmkkebllmmafmaa.Pt
