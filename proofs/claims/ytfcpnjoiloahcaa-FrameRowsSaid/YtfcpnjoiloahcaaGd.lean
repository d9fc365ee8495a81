/- What the sums, and frames laid, come to. -/
import Derived.Test.YtfcpnjoiloahcaaGc
import Derived.Test.YtfcpnjoiloahcaaLp
import Derived.Test.YtfcpnjoiloahcaaLq
namespace Go.Proofs.Ytfcpnjoiloahcaa.Gc
open Go.RowKit Go.Proofs.YtfcpnjoiloahcaaW.PrintWords Go.Proofs.YtfcpnjoiloahcaaW.PrintLast Go.Proofs.YtfcpnjoiloahcaaW.PrintMore Go.Proofs.Ytfcpnjoiloahcaa.B Go.Proofs.Ytfcpnjoiloahcaa.Ls Go.Proofs.Ytfcpnjoiloahcaa.Gs Go.Proofs.Ytfcpnjoiloahcaa.S
set_option linter.unusedVariables false
set_option linter.unusedSimpArgs false
set_option maxHeartbeats 4000000 in
set_option maxRecDepth 100000 in
theorem rsum_calls (A : Option Addr) (c : Nat) (l : List Int) (n : Nat) (hn : l.length = n) (w : World) (hC : kU8.C w A n l) (hby : By l) :
    Calls Try.prog 59 #[.slice A n c] w fun e w' => e = .returned (.int .u32 (sumL l)) ∧ w = w' := by
  subst hn
  have HC := Aside0.mk hC
  have HBY := Aside0.mk hby
  have hll := hC.2.1
  clear hC hby
  go_enter Try.func59, Try.ntmps59
  go_wp2_with fail
  go_loopw [3, 4] (fun vx vi wr => wr = w ∧ ∃ (i : Nat) (y : Int), i ≤ l.length ∧ vi = .int .i64 i ∧ vx = .int .u32 y ∧ 0 ≤ y ∧ y < 4294967296 ∧ Aside0 (y = crcL (l.take i) 4294967295)) (fun _ vi _ => l.length - (intOf vi).toNat)
  case atStart => exact ⟨rfl, 0, _, by omega, rfl, rfl, by decide, by decide, ⟨rfl⟩⟩
  case round =>
    obtain ⟨rfl, i, y, hi, rfl, rfl, hy0, hy1, HY⟩ := hrel
    by_cases hil : i < l.length
    · obtain ⟨b, hb⟩ : ∃ b, l[i]? = some b := ⟨_, List.getElem?_eq_getElem hil⟩
      obtain ⟨ad1, rfl⟩ : ∃ ad, A = some ad := by obtain ⟨ad, e, _⟩ := HC.out.2.2 (by omega); exact ⟨ad, e⟩
      have q2 := C_cell HC.out hb
      obtain ⟨hb0, hb1⟩ := HBY.out.at hb
      have HT := Aside0.mk (show crcL (l.take (i + 1)) 4294967295 = crcByte y b by rw [crcL_take _ hb, HY.out])
      clear hb HY
      go_wp2_with fail
      have hxr := xor_range y b
      obtain ⟨z0, hz0⟩ : ∃ z, Go.bits .xor .u32 y b = z := ⟨_, rfl⟩
      rw [hz0] at hxr
      rw [hz0]
      have HZ := Aside0.mk hz0
      clear hz0
      obtain ⟨hz00, hz01⟩ := hxr
      go_loopw [3, 5] (fun vx vi wr' => wr' = wr ∧ ∃ (j : Nat) (z : Int), j ≤ 8 ∧ vi = .int .i64 j ∧ vx = .int .u32 z ∧ 0 ≤ z ∧ z < 4294967296 ∧ Aside0 (crcBits (8 - j) z = crcByte y b)) (fun _ vi _ => 8 - (intOf vi).toNat)
      case atStart => exact ⟨rfl, 0, z0, by omega, rfl, rfl, hz00, hz01, ⟨by rw [← HZ.out]; rfl⟩⟩
      case round =>
        obtain ⟨rfl, j, z, hj, rfl, rfl, hz0, hz1, HZ⟩ := hrel
        by_cases hj8 : j < 8
        · have hr := crcBit_range z hz0 hz1
          have HZ2 := Aside0.mk (show crcBits (8 - (j + 1)) (crcBit z) = crcByte y b by rw [← HZ.out, show 8 - j = (8 - (j + 1)) + 1 by omega]; rfl)
          by_cases hodd : z % 2 = 1
          · have ho : (z % 2 == 1) = true := by rw [hodd]; rfl
            have hcb : crcBit z = Go.bits .xor .u32 (z / 2) 3988292384 := if_pos hodd
            rw [hcb] at HZ2 hr
            clear hcb hodd
            go_wp2
            go_roundw
            case rel => exact ⟨by first | rfl | trivial, j + 1, _, by omega, by go_num, rfl, hr.1, hr.2, HZ2⟩
            case measure => simp [intOf]; omega
          · have ho : (z % 2 == 1) = false := beq_eq_false_iff_ne.mpr hodd
            have hcb : crcBit z = z / 2 := if_neg hodd
            rw [hcb] at HZ2 hr
            clear hcb hodd
            go_wp2
            go_roundw
            case rel => exact ⟨by first | rfl | trivial, j + 1, _, by omega, by go_num, rfl, by omega, by omega, HZ2⟩
            case measure => simp [intOf]; omega
        · have hje : j = 8 := by omega
          subst hje
          go_wp2
          go_roundw
          case rel => exact ⟨by first | rfl | trivial, i + 1, z, by omega, by go_num, rfl, hz0, hz1, ⟨by rw [HT.out, ← HZ.out]; rfl⟩⟩
          case measure => simp [intOf]; omega
    · have hie : i = l.length := by omega
      subst hie
      go_wp2
      go_ret
      rw [List.take_length] at HY
      refine ⟨?_, rfl⟩
      rw [sumL, ← HY.out]
      rfl
/-- A literal of whole numbers. -/
theorem R_litk (k : IntKind) (e : Nat) (W : World) (xs : List Int) (hm : xs.length ≤ 9223372036854775807) : (Kd.int k).R e (W.alloc (.cells (xs.map (Value.int k)).toArray e)) W.heap.size (fun _ => True) (.slice (some ⟨W.heap.size, 0, none⟩) xs.length xs.length) xs :=
  Kd.R_of_own (own_lit W W.heap.size e k xs (Nat.le_refl _) hm) (fun _ _ => trivial)
/-- A literal of two rows of bytes. -/
theorem kL_two {w : World} {A1 A2 : Option Addr} {c1 c2 n1 n2 : Nat} {l1 l2 : List Int} (h1 : kU8.C w A1 n1 l1) (h2 : kU8.C w A2 n2 l2) (hc1 : n1 ≤ c1) (hc2 : n2 ≤ c2) (e : Nat) :
    kL.C (w.alloc (.cells #[.slice A1 n1 c1, .slice A2 n2 c2] e)) (some ⟨w.heap.size, 0, none⟩) 2 [l1, l2] := by
  obtain rfl := h1.1
  obtain rfl := h2.1
  refine ⟨rfl, by decide, fun _ => ⟨_, rfl, fun j p hj => ?_⟩⟩
  have cell : ∀ (j : Nat) (v : Value), (#[.slice A1 l1.length c1, .slice A2 l2.length c2] : Array Value)[j]? = some v → (w.alloc (.cells #[.slice A1 l1.length c1, .slice A2 l2.length c2] e)).cell? ((⟨w.heap.size, 0, none⟩ : Addr).add j) = some v := fun j v h => by
    have hadd : (⟨w.heap.size, 0, none⟩ : Addr).add j = ⟨w.heap.size, j, none⟩ := by unfold Addr.add; split <;> simp_all
    rw [hadd, cell_of_row _ w.heap.size j _ e (0, 0) (heap_alloc_new _ _)]
    exact h
  have hs : kL.sz = 1 := rfl
  match j, hj with
  | 0, hj =>
    have := Option.some.inj hj
    subst this
    refine ⟨[.slice A1 l1.length c1], rfl, ⟨A1, c1, rfl, hc1, Kd.C_alloc h1 _⟩, fun i u hu => ?_⟩
    obtain ⟨rfl, rfl⟩ : i = 0 ∧ u = .slice A1 l1.length c1 := by
      rcases i with _ | i
      · exact ⟨rfl, by simpa using hu.symm⟩
      · simp at hu
    exact cell _ _ rfl
  | 1, hj =>
    have := Option.some.inj hj
    subst this
    refine ⟨[.slice A2 l2.length c2], rfl, ⟨A2, c2, rfl, hc2, Kd.C_alloc h2 _⟩, fun i u hu => ?_⟩
    obtain ⟨rfl, rfl⟩ : i = 0 ∧ u = .slice A2 l2.length c2 := by
      rcases i with _ | i
      · exact ⟨rfl, by simpa using hu.symm⟩
      · simp at hu
    exact cell _ _ rfl
  | n + 2, hj => simp at hj
/-- A sum's four bytes as the program has them. -/
def fourV (k : Int) (b : List Int) : Value := .agg #[.int .u8 (sumL (k :: b) % 256), .int .u8 (sumL (k :: b) / 256 % 256), .int .u8 (sumL (k :: b) / 65536 % 256), .int .u8 (sumL (k :: b) / 16777216)]
set_option maxHeartbeats 4000000 in
set_option maxRecDepth 100000 in
theorem four_calls (k : Int) (hk0 : 0 ≤ k) (hk1 : k < 256) (A : Option Addr) (c : Nat) (b : List Int) (w : World) (hC : kU8.C w A b.length b) (hc : b.length ≤ c) (hby : By b) :
    Calls Try.prog 54 #[.int .u8 k, .slice A b.length c] w fun e w' => e = .returned (fourV k b) ∧ Below w.heap.size w w' := by
  have HC := Aside0.mk hC
  have hsr := sumL_range (k :: b)
  have hby2 : ∀ l ∈ [[k], b], By l := fun l hl => by
    simp only [List.mem_cons, List.not_mem_nil, or_false] at hl
    rcases hl with rfl | rfl
    · intro x hx; simp at hx; omega
    · exact hby
  have HBY := Aside0.mk hby2
  have HE := Aside0.mk (show fourV k b = .agg #[.int .u8 (sumL (k :: b) % 256), .int .u8 (sumL (k :: b) / 256 % 256), .int .u8 (sumL (k :: b) / 65536 % 256), .int .u8 (sumL (k :: b) / 16777216)] from rfl)
  obtain ⟨n, hn⟩ : ∃ n, sumL (k :: b) = n := ⟨_, rfl⟩
  rw [hn] at HE hsr
  have HN := Aside0.mk (show sumL ([[k], b] : List (List Int)).flatten = n by rw [← hn]; simp)
  obtain ⟨hn0, hn1⟩ := hsr
  have hcall : Calls Try.prog 69 #[.slice (some ⟨w.heap.size + 1 + 1, 0, none⟩) 2 2] (((w.alloc (.cells #[.int .u8 0, .int .u8 0, .int .u8 0, .int .u8 0] 104)).alloc (.cells #[.int .u8 k] 5)).alloc (.cells #[.slice (some ⟨w.heap.size + 1, 0, none⟩) 1 1, .slice A b.length c] 24)) fun e w' => e = .returned (.int .u32 n) ∧ (((w.alloc (.cells #[.int .u8 0, .int .u8 0, .int .u8 0, .int .u8 0] 104)).alloc (.cells #[.int .u8 k] 5)).alloc (.cells #[.slice (some ⟨w.heap.size + 1, 0, none⟩) 1 1, .slice A b.length c] 24)) = w' := by
    obtain ⟨W1, hW1⟩ : ∃ W1, W1 = w.alloc (.cells #[.int .u8 0, .int .u8 0, .int .u8 0, .int .u8 0] 104) := ⟨_, rfl⟩
    have e1 : W1.heap.size = w.heap.size + 1 := by rw [hW1]; exact World.size_alloc _ _
    have hCb : kU8.C W1 A b.length b := by rw [hW1]; exact Kd.C_alloc hC _
    rw [← hW1, ← e1]
    obtain ⟨W2, hW2⟩ : ∃ W2, W2 = W1.alloc (.cells #[.int .u8 k] 5) := ⟨_, rfl⟩
    have e2 : W2.heap.size = W1.heap.size + 1 := by rw [hW2]; exact World.size_alloc _ _
    have hk : kU8.C W2 (some ⟨W1.heap.size, 0, none⟩) 1 [k] := by rw [hW2]; exact C_lit .u8 5 W1 [k] (by simp)
    have hCb2 : kU8.C W2 A b.length b := by rw [hW2]; exact Kd.C_alloc hCb _
    rw [← hW2, ← e2]
    have h := sum_calls (some ⟨W2.heap.size, 0, none⟩) 2 [[k], b] _ (kL_two (c1 := 1) hk hCb2 (Nat.le_refl 1) hc 24) HBY.out
    rw [HN.out] at h
    exact h
  have HCALL := Aside0.mk hcall
  have q1 := Int.emod_nonneg n (show (256 : Int) ≠ 0 by decide)
  clear hC hby hby2 hn hcall q1
  go_enter Try.func54, Try.ntmps54
  go_wp2_with (first | (go_at_call 69; refine HCALL.out.mono ?_; rintro e w1 ⟨rfl, rfl⟩))
  refine bodyPost_ret (results_cell_row rfl _ _ w.heap.size 104 _ (0, 0) _ rfl ((Below.heap_alloc _ _ _ (by simp; omega)).trans ((Below.heap_alloc _ _ _ (by simp)).trans (heap_alloc_new w _))) Try.underlying104 rfl (by kernel_rfl)) rfl ?_
  exact ⟨by rw [HE.out], (((Below.refl _ _).alloc (Nat.le_refl _) _).alloc (by simp) _).alloc (by simp; omega) _⟩
/-- The same four bytes as the reference has them. -/
theorem check_eq (k : Int) (b : List Int) : check k b = [sumL (k :: b) % 256, sumL (k :: b) / 256 % 256, sumL (k :: b) / 65536 % 256, sumL (k :: b) / 16777216] := rfl
set_option maxHeartbeats 4000000 in
set_option maxRecDepth 100000 in
theorem check_calls (k : Int) (hk0 : 0 ≤ k) (hk1 : k < 256) (A : Option Addr) (c : Nat) (b : List Int) (m : Nat) (hm : b.length = m) (w : World) (hC : kU8.C w A m b) (hll : m ≤ 140737488355300) (hby : By b) :
    Calls Try.prog 37 #[.int .u8 k, .slice A m c] w fun e w' => ∃ g, e = .returned (.slice (some ⟨g, 0, none⟩) 4 4) ∧ kU8.C w' (some ⟨g, 0, none⟩) 4 (check k b) ∧ Below w.heap.size w w' := by
  subst hm
  have HC := Aside0.mk hC
  have hsr := sumL_range (k :: b)
  have HBY := Aside0.mk (show By (k :: b) from fun x hx => by
    rcases List.mem_cons.1 hx with rfl | hx
    · omega
    · exact hby x hx)
  have HE := Aside0.mk (check_eq k b)
  obtain ⟨n, hn⟩ : ∃ n, sumL (k :: b) = n := ⟨_, rfl⟩
  rw [hn] at HE hsr
  have HN := Aside0.mk hn
  obtain ⟨hn0, hn1⟩ := hsr
  obtain ⟨nb, hnb⟩ : ∃ nb, (k :: b).length = nb := ⟨_, rfl⟩
  have HNB := Aside0.mk hnb
  have HR0 := Aside0.mk (show kU8.R 5 (w.alloc (.cells #[.int .u8 k] 5)) w.heap.size (fun _ => True) (.slice (some ⟨w.heap.size, 0, none⟩) 1 1) [k] from R_litk .u8 5 w [k] (by simp))
  clear hC hby hn hnb
  go_enter Try.func37, Try.ntmps37
  go_wp2_with (first
    | ((with_reducible refine gate_builtin (b := .append) (xs := #[.tmp 7, .tmp 8]) rfl ?_); at_builtin; refine Kd.R_append_rows (Kd.int .u8) (w0 := w) w.heap.size rfl (.tmp 7) (.tmp 8) 24 5 (.int .u8 0) 1 rfl Try.underlying24 infoU8 rfl (by decide) (by omega) (.slice (some ⟨w.heap.size, 0, none⟩) 1 1) [k] b _ _ _ (fun _ => True) (fun _ => False) rfl rfl ?aO ?aR (fun _ _ h => h) (fun _ h => h.elim) ?aF ?aB ?aS ?aL ?_; (case aR => exact Kd.C_alloc HC.out _); (case aB => exact (Below.refl _ _).alloc (Nat.le_refl _) _); (case aF => exact (fun _ _ => trivial)); (case aO => exact HR0.out); (case aS => simp); (case aL => (simp only [List.length_cons, List.length_nil]; omega)); (intro v1 w1 ho hb1 hg hat; obtain ⟨A1, c1, hv, -, hC1⟩ := Kd.R_reads ho; rw [show ([k] ++ b).length = nb from HNB.out] at hv hC1; subst hv; have HC1 := Aside0.mk hC1; have HB1 := Aside0.mk hb1; clear ho hb1 hg hat hC1))
    | (go_at_call 59; refine (rsum_calls A1 c1 (k :: b) nb HNB.out _ HC1.out HBY.out).mono ?_; rw [HN.out]; rintro e w2 ⟨rfl, rfl⟩))
  go_ret
  refine ⟨w1.heap.size, rfl, ?_, HB1.out.alloc HB1.out.size _⟩
  rw [HE.out]
  exact C_lit .u8 5 w1 [n % 256, n / 256 % 256, n / 65536 % 256, n / 16777216] (by simp)
end Go.Proofs.Ytfcpnjoiloahcaa.Gc
