/- What holds at the beginning: both. -/
import Derived.Test.YtmkkebllmmafmaaPof
namespace Go.Proofs.Ytmkkebllmmafmaa.Pt
open Go.Sort Go.RowKit Go.Proofs.YtmkkebllmmafmaaW.PrintWords Go.Proofs.YtmkkebllmmafmaaW.PrintLast Go.Proofs.YtmkkebllmmafmaaW.PrintMore Go.Proofs.Ytmkkebllmmafmaa.B Go.Proofs.Ytmkkebllmmafmaa.Ps Go.Proofs.Ytmkkebllmmafmaa.R Go.Proofs.Ytmkkebllmmafmaa.Pk Go.Proofs.Ytmkkebllmmafmaa.Pa Go.Proofs.Ytmkkebllmmafmaa.Pm Go.Proofs.Ytmkkebllmmafmaa.Pw Go.Proofs.Ytmkkebllmmafmaa.Pd Go.Proofs.Ytmkkebllmmafmaa.Pg Go.Proofs.Ytmkkebllmmafmaa.Px Go.Proofs.Ytmkkebllmmafmaa.S
set_option linter.unusedVariables false
set_option linter.unusedSimpArgs false
def fFirst (p R : Nat) : Nat → Nat → Bool := fun v l => if v < p then decide (l = R + v) else decide (l < R ∨ R + p ≤ l)
theorem mul_le {a b c d : Nat} (h1 : a ≤ b) (h2 : c ≤ d) : a * c ≤ b * d := Nat.mul_le_mul h1 h2
set_option maxHeartbeats 4000000 in
set_option maxRecDepth 100000 in
theorem first_calls (p V R S n : Nat) (hn : n = R + S) (hV : V ≤ 30) (hp : p ≤ 30) (hR : R ≤ 30) (hS : S ≤ 30) (w : World) :
    Calls Try.prog 23 #[.int .i64 p, .int .i64 V, .int .i64 R, .int .i64 S] w fun e w' => ∃ v, e = .returned v ∧ kP.R 25 w' w.heap.size (fun _ => True) v (pairsOf V n (fFirst p R)) ∧ Below w.heap.size w w' := by
  have hns : ((R : Int) + (S : Int)) = (n : Int) := by omega
  have HR0 := Aside0.mk (Kd.R_nil kP 25 w w.heap.size (fun _ => True))
  have HB0 := Aside0.mk (Below.refl w.heap.size w)
  have hn60 : n ≤ 60 := by omega
  have HNN := Aside0.mk hn
  clear hn
  go_enter Try.func23, Try.ntmps23
  go_wp2_with fail
  go_loopw [9, 14] (fun vo vk wr => ∃ (k : Nat) (xs : List Pr), k ≤ V ∧ vk = .int .i64 k ∧ Aside0 (xs = pre n (fFirst p R) (k * n)) ∧ Aside0 (kP.R 25 wr w.heap.size (fun _ => True) vo xs) ∧ Aside0 (Below w.heap.size w wr)) (fun _ vk _ => V - (intOf vk).toNat)
  case atStart => exact ⟨0, [], by omega, rfl, ⟨by rw [Nat.zero_mul]; rfl⟩, HR0, HB0⟩
  case round =>
    clear HR0 HB0
    obtain ⟨k, xs, hk, rfl, HX, HR, HB⟩ := hrel
    by_cases hgo : k < V
    · have d0 : decide ((k : Int) < V) = true := decide_eq_true (by omega)
      go_wp2_with fail
      go_loopw [9, 20] (fun vo vl wz => ∃ (l : Nat) (ys : List Pr), l ≤ n ∧ vl = .int .i64 l ∧ Aside0 (ys = pre n (fFirst p R) (k * n + l)) ∧ Aside0 (kP.R 25 wz w.heap.size (fun _ => True) vo ys) ∧ Aside0 (Below w.heap.size w wz)) (fun _ vl _ => n - (intOf vl).toNat)
      case atStart => exact ⟨0, xs, by omega, rfl, HX, HR, HB⟩
      case round =>
        clear HR HB HX
        obtain ⟨l, ys, hl, rfl, HX, HR, HB⟩ := hrel
        by_cases hgo2 : l < n
        · have d1 : decide ((l : Int) < n) = true := decide_eq_true (by omega)
          have hyl : ys.length ≤ 2000 := by
            rw [HX.out]
            have h1 := pre_len n (fFirst p R) (k * n + l)
            have h2 := ix_lt hgo hgo2
            have h3 := mul_le hV hn60
            omega
          obtain ⟨Ao, co, rfl, hco, -⟩ := Kd.R_reads HR.out
          have hps := pre_succ (fFirst p R) (v := k) hgo2
          have HLN := Aside0.mk hgo2
          have wl := wrI64 ((l : Int) - R) (by omega) (by omega)
          obtain ⟨lr, hlr⟩ : ∃ lr : Int, (l : Int) - (R : Int) = lr := ⟨_, rfl⟩
          rw [hlr] at wl
          have HLR := Aside0.mk hlr
          by_cases c1 : k < p
          · have d2 : decide ((k : Int) < p) = true := decide_eq_true (by omega)
            have d3 : decide ((p : Int) ≤ k) = false := decide_eq_false (by omega)
            have d3' : decide (p ≤ k) = false := decide_eq_false (by omega)
            have d2' : decide (k < p) = true := decide_eq_true c1
            by_cases c2 : l = R + k
            · have d4 : (lr == (k : Int)) = true := by simp; omega
              have hps2 : pre n (fFirst p R) (k * n + l + 1) = pre n (fFirst p R) (k * n + l) ++ [((k : Int), (l : Int))] := by rw [hps]; simp [fFirst, c1, c2]
              have HPS := Aside0.mk hps2
              clear hps hps2 c1 c2
              go_wp2_with (first | ((with_reducible refine gate_builtin (b := .append) (xs := #[.tmp 51, .tmp 55]) rfl ?_); at_builtin; refine Kd.R_append kP (w0 := w) w.heap.size rfl (.tmp 51) (.tmp 55) 22 25 (.agg #[.int .i64 0, .int .i64 0]) 16 rfl Try.underlying22 infoP rfl (show 0 < 2 by decide) (by decide) (.slice Ao ys.length co) ys ((k : Int), (l : Int)) [.int .i64 k, .int .i64 l] (fun _ => True) (fun _ => False) rfl rfl (kP_M.2 rfl) (fun _ h => h.elim) (fun _ _ => trivial) HR.out HB.out HB.out.size (by omega) ?_; intro v3 w3 ho3 hb3 hg hat; have HO3 := Aside0.mk ho3; have HB3 := Aside0.mk hb3; clear ho3 hb3 hg hat))
              go_roundw
              case rel => exact ⟨l + 1, ys ++ [((k : Int), (l : Int))], HLN.out, by go_num, ⟨by rw [← Nat.add_assoc, HPS.out, HX.out]⟩, HO3, HB3⟩
              case measure => have := HLN.out; simp [intOf]; omega
            · have d4 : (lr == (k : Int)) = false := by simp; omega
              have hps2 : pre n (fFirst p R) (k * n + l + 1) = pre n (fFirst p R) (k * n + l) := by rw [hps]; simp [fFirst, c1, c2]
              have HPS := Aside0.mk hps2
              clear hps hps2 c1 c2
              go_wp2_with fail
              go_roundw
              case rel => exact ⟨l + 1, ys, HLN.out, by go_num, ⟨by rw [← Nat.add_assoc, HPS.out, HX.out]⟩, HR, HB⟩
              case measure => have := HLN.out; simp [intOf]; omega
          · have d2 : decide ((k : Int) < p) = false := decide_eq_false (by omega)
            have d3 : decide ((p : Int) ≤ k) = true := decide_eq_true (by omega)
            have d3' : decide (p ≤ k) = true := decide_eq_true (by omega)
            have d2' : decide (k < p) = false := decide_eq_false c1
            obtain ⟨ob, hob⟩ : ∃ ob, (lr == (k : Int)) = ob := ⟨_, rfl⟩
            by_cases c2 : l < R
            · have d5 : decide ((l : Int) < R) = true := decide_eq_true (by omega)
              have d5' : decide (l < R) = true := decide_eq_true c2
              have hps2 : pre n (fFirst p R) (k * n + l + 1) = pre n (fFirst p R) (k * n + l) ++ [((k : Int), (l : Int))] := by rw [hps]; simp [fFirst, c1, c2]
              have HPS := Aside0.mk hps2
              clear hps hps2 c1 c2
              go_wp2_with (first | ((with_reducible refine gate_builtin (b := .append) (xs := #[.tmp 51, .tmp 55]) rfl ?_); at_builtin; refine Kd.R_append kP (w0 := w) w.heap.size rfl (.tmp 51) (.tmp 55) 22 25 (.agg #[.int .i64 0, .int .i64 0]) 16 rfl Try.underlying22 infoP rfl (show 0 < 2 by decide) (by decide) (.slice Ao ys.length co) ys ((k : Int), (l : Int)) [.int .i64 k, .int .i64 l] (fun _ => True) (fun _ => False) rfl rfl (kP_M.2 rfl) (fun _ h => h.elim) (fun _ _ => trivial) HR.out HB.out HB.out.size (by omega) ?_; intro v3 w3 ho3 hb3 hg hat; have HO3 := Aside0.mk ho3; have HB3 := Aside0.mk hb3; clear ho3 hb3 hg hat))
              go_roundw
              case rel => exact ⟨l + 1, ys ++ [((k : Int), (l : Int))], HLN.out, by go_num, ⟨by rw [← Nat.add_assoc, HPS.out, HX.out]⟩, HO3, HB3⟩
              case measure => have := HLN.out; simp [intOf]; omega
            · have d5 : decide ((l : Int) < R) = false := decide_eq_false (by omega)
              have d5' : decide (l < R) = false := decide_eq_false c2
              by_cases c3 : R + p ≤ l
              · have d6 : decide ((p : Int) ≤ lr) = true := decide_eq_true (by omega)
                have hps2 : pre n (fFirst p R) (k * n + l + 1) = pre n (fFirst p R) (k * n + l) ++ [((k : Int), (l : Int))] := by rw [hps]; simp [fFirst, c1, c2, c3]
                have HPS := Aside0.mk hps2
                clear hps hps2 c1 c2 c3
                go_wp2_with (first | ((with_reducible refine gate_builtin (b := .append) (xs := #[.tmp 51, .tmp 55]) rfl ?_); at_builtin; refine Kd.R_append kP (w0 := w) w.heap.size rfl (.tmp 51) (.tmp 55) 22 25 (.agg #[.int .i64 0, .int .i64 0]) 16 rfl Try.underlying22 infoP rfl (show 0 < 2 by decide) (by decide) (.slice Ao ys.length co) ys ((k : Int), (l : Int)) [.int .i64 k, .int .i64 l] (fun _ => True) (fun _ => False) rfl rfl (kP_M.2 rfl) (fun _ h => h.elim) (fun _ _ => trivial) HR.out HB.out HB.out.size (by omega) ?_; intro v3 w3 ho3 hb3 hg hat; have HO3 := Aside0.mk ho3; have HB3 := Aside0.mk hb3; clear ho3 hb3 hg hat))
                go_roundw
                case rel => exact ⟨l + 1, ys ++ [((k : Int), (l : Int))], HLN.out, by go_num, ⟨by rw [← Nat.add_assoc, HPS.out, HX.out]⟩, HO3, HB3⟩
                case measure => have := HLN.out; simp [intOf]; omega
              · have d6 : decide ((p : Int) ≤ lr) = false := decide_eq_false (by omega)
                have hps2 : pre n (fFirst p R) (k * n + l + 1) = pre n (fFirst p R) (k * n + l) := by rw [hps]; simp [fFirst, c1, c2, c3]
                have HPS := Aside0.mk hps2
                clear hps hps2 c1 c2 c3
                go_wp2_with fail
                go_roundw
                case rel => exact ⟨l + 1, ys, HLN.out, by go_num, ⟨by rw [← Nat.add_assoc, HPS.out, HX.out]⟩, HR, HB⟩
                case measure => have := HLN.out; simp [intOf]; omega
        · have d1 : decide ((l : Int) < n) = false := decide_eq_false (by omega)
          obtain rfl : l = n := by omega
          go_wp2_with fail
          go_roundw
          case rel => exact ⟨k + 1, ys, by omega, by go_num, ⟨by rw [HX.out, Nat.succ_mul]⟩, HR, HB⟩
          case measure => simp [intOf]; omega
    · have d0 : decide ((k : Int) < V) = false := decide_eq_false (by omega)
      obtain rfl : k = V := by omega
      go_wp2_with fail
      go_ret
      have hx : xs = pairsOf k n (fFirst p R) := HX.out
      rw [← hx]
      exact ⟨_, rfl, HR.out, HB.out⟩
end Go.Proofs.Ytmkkebllmmafmaa.Pt
