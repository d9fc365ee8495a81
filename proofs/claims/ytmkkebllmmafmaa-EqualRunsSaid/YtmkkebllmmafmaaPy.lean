/- The reference's sets: their pairs; sets of pairs. -/
import Derived.Test.YtmkkebllmmafmaaPx
namespace Go.Proofs.Ytmkkebllmmafmaa.Px
open Go.Sort Go.RowKit Go.Proofs.YtmkkebllmmafmaaW.PrintWords Go.Proofs.YtmkkebllmmafmaaW.PrintLast Go.Proofs.YtmkkebllmmafmaaW.PrintMore Go.Proofs.Ytmkkebllmmafmaa.B Go.Proofs.Ytmkkebllmmafmaa.Ps Go.Proofs.Ytmkkebllmmafmaa.R Go.Proofs.Ytmkkebllmmafmaa.Pk Go.Proofs.Ytmkkebllmmafmaa.Pa Go.Proofs.Ytmkkebllmmafmaa.Pm Go.Proofs.Ytmkkebllmmafmaa.Pw Go.Proofs.Ytmkkebllmmafmaa.Pd Go.Proofs.Ytmkkebllmmafmaa.Pg Go.Proofs.Ytmkkebllmmafmaa.S
set_option linter.unusedVariables false
set_option linter.unusedSimpArgs false
section
variable {w : World} {base g h V n N : Nat} {f : Nat → Nat → Bool}
set_option maxHeartbeats 4000000 in
set_option maxRecDepth 100000 in
theorem pairs_calls (s : SetAt w base g h V n N f) (hb : N ≤ 1000) (hV : V ≤ 1000) (hn : n ≤ 1000) :
    Calls Try.prog 18 #[.pointer (some ⟨g, 0, none⟩)] w fun e w' => ∃ v, e = .returned v ∧ kP.R 25 w' w.heap.size (fun _ => True) v (pairsOf V n f) ∧ Below w.heap.size w w' := by
  have HS := Aside0.mk s
  have hgl := s.lt.1
  have HR0 := Aside0.mk (Kd.R_nil kP 25 w w.heap.size (fun _ => True))
  have HB0 := Aside0.mk (Below.refl w.heap.size w)
  clear s
  go_enter Try.func18, Try.ntmps18
  go_wp2_with fail
  go_loopw [3, 4] (fun vo vk wr => ∃ (k : Nat) (xs : List Pr), k ≤ V ∧ vk = .int .i64 k ∧ Aside0 (xs = pre n f (k * n)) ∧ Aside0 (kP.R 25 wr w.heap.size (fun _ => True) vo xs) ∧ Aside0 (Below w.heap.size w wr)) (fun _ vk _ => V - (intOf vk).toNat)
  case atStart => exact ⟨0, [], by omega, rfl, ⟨by rw [Nat.zero_mul]; rfl⟩, HR0, HB0⟩
  case round =>
    clear HR0 HB0
    obtain ⟨k, xs, hk, rfl, HX, HR, HB⟩ := hrel
    obtain ⟨y0, y1, y2⟩ := (HS.out.below HB.out).cells
    have hgl2 : g < wr.heap.size := by have := HB.out.size; omega
    by_cases hgo : k < V
    · have d0 : decide ((k : Int) < V) = true := decide_eq_true (by omega)
      go_wp2_with fail
      clear y0 y1 y2
      go_loopw [3, 5] (fun vo vl wz => ∃ (l : Nat) (ys : List Pr), l ≤ n ∧ vl = .int .i64 l ∧ Aside0 (ys = pre n f (k * n + l)) ∧ Aside0 (kP.R 25 wz w.heap.size (fun _ => True) vo ys) ∧ Aside0 (Below w.heap.size w wz)) (fun _ vl _ => n - (intOf vl).toNat)
      case atStart => exact ⟨0, xs, by omega, rfl, HX, HR, HB⟩
      case round =>
        clear HR HB HX
        obtain ⟨l, ys, hl, rfl, HX, HR, HB⟩ := hrel
        obtain ⟨z0, z1, z2⟩ := (HS.out.below HB.out).cells
        have hgl3 : g < wr.heap.size := by have := HB.out.size; omega
        by_cases hgo2 : l < n
        · have d1 : decide ((l : Int) < n) = true := decide_eq_true (by omega)
          have hcon := has_calls (HS.out.below HB.out) (by omega) hgo hgo2
          have hyl : ys.length ≤ 1000 := by
            rw [HX.out]
            have h1 := pre_len n f (k * n + l)
            have h2 := ix_lt hgo hgo2
            rw [← HS.out.eN] at h2
            omega
          obtain ⟨Ao, co, rfl, hco, -⟩ := Kd.R_reads HR.out
          have hps := pre_succ f (v := k) hgo2
          cases hf : f k l with
          | true =>
            rw [hf] at hcon hps
            have HPS := Aside0.mk hps
            clear hps hf
            go_wp2_with (first
              | (go_at_call 28; refine hcon.mono ?_; rintro e w2 ⟨rfl, q, rfl⟩; have HB2 := Aside0.mk (belowN HB.out q); have HR2 := Aside0.mk (Kd.R_below HR.out (belowN (Below.refl _ _) q)); generalize World.drewN _ q = w2 at *)
              | ((with_reducible refine gate_builtin (b := .append) (xs := #[.tmp 26, .tmp 30]) rfl ?_); at_builtin; refine Kd.R_append kP (w0 := w) w.heap.size rfl (.tmp 26) (.tmp 30) 22 25 (.agg #[.int .i64 0, .int .i64 0]) 16 rfl Try.underlying22 infoP rfl (show 0 < 2 by decide) (by decide) (.slice Ao ys.length co) ys ((k : Int), (l : Int)) [.int .i64 k, .int .i64 l] (fun _ => True) (fun _ => False) rfl rfl (kP_M.2 rfl) (fun _ h => h.elim) (fun _ _ => trivial) HR2.out HB2.out HB2.out.size (by omega) ?_; intro v3 w3 ho3 hb3 hg hat; have HO3 := Aside0.mk ho3; have HB3 := Aside0.mk hb3; clear ho3 hb3 hg hat))
            go_roundw
            case rel => exact ⟨l + 1, ys ++ [((k : Int), (l : Int))], by omega, by go_num, ⟨by rw [← Nat.add_assoc, HPS.out, HX.out]; simp⟩, HO3, HB3⟩
            case measure => simp [intOf]; omega
          | false =>
            rw [hf] at hcon hps
            have HPS := Aside0.mk hps
            clear hps hf
            go_wp2_with (first
              | (go_at_call 28; refine hcon.mono ?_; rintro e w2 ⟨rfl, q, rfl⟩; have HB2 := Aside0.mk (belowN HB.out q); have HR2 := Aside0.mk (Kd.R_below HR.out (belowN (Below.refl _ _) q)); generalize World.drewN _ q = w2 at *))
            go_roundw
            case rel => exact ⟨l + 1, ys, by omega, by go_num, ⟨by rw [← Nat.add_assoc, HPS.out, HX.out]; simp⟩, HR2, HB2⟩
            case measure => simp [intOf]; omega
        · have d1 : decide ((l : Int) < n) = false := decide_eq_false (by omega)
          obtain rfl : l = n := by omega
          go_wp2_with fail
          go_roundw
          case rel => exact ⟨k + 1, ys, by omega, by go_num, ⟨by rw [HX.out, Nat.succ_mul]⟩, HR, HB⟩
          case measure => simp [intOf]; omega
    · have d0 : decide ((k : Int) < V) = false := decide_eq_false (by omega)
      obtain rfl : k = V := by omega
      go_wp2_with fail
      go_ret
      have hx : xs = pairsOf k n f := HX.out
      rw [← hx]
      exact ⟨_, rfl, HR.out, HB.out⟩
end
end Go.Proofs.Ytmkkebllmmafmaa.Px
