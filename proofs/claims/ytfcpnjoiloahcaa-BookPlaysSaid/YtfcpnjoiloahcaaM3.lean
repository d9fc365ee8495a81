/- Contracts and plain facts that the statements' proofs use (part 3). -/
import Derived.Test.YtfcpnjoiloahcaaM2
import Derived.Stop.BytesEq
import Derived.Lib.SlBytesConst
import Derived.OwnWalk
namespace Go.Proofs.Ytfcpnjoiloahcaa.Lr
open Go.RowKit Go.Proofs.YtfcpnjoiloahcaaW.PrintWords Go.Proofs.YtfcpnjoiloahcaaW.PrintLast Go.Proofs.YtfcpnjoiloahcaaW.PrintMore Go.Proofs.Ytfcpnjoiloahcaa.B Go.Proofs.Ytfcpnjoiloahcaa.Ls Go.Proofs.Ytfcpnjoiloahcaa.Lc
set_option linter.unusedVariables false
set_option linter.unusedSimpArgs false

set_option maxHeartbeats 1000000 in
theorem below_calls (g b : Nat) (l : List Int) (code m : Int) (w : World) (h : Rdr 95 w g b l code) (hby : By l) (hm0 : -9223372036854775808 ≤ m) (hm1 : m ≤ 9223372036854775807) :
    Calls Try.prog 43 #[.pointer (some ⟨g, 0, none⟩), .int .i64 m] w fun e w' => e = .returned (.int .i64 (below m l code).1) ∧ Rdr 95 w' g b (below m l code).2.1 (below m l code).2.2 ∧ Keep (· = g) w w' ∧ w'.heap.size = w.heap.size := by
  have HN := num_calls g b l code w h hby
  have hr := num_range l code hby
  have hd : below m l code = if (num l code).2.2 = 0 then (if m < 1 ∨ m ≤ (num l code).1 then (0, (num l code).2.1, 2) else num l code) else (0, (num l code).2) := rfl
  rw [hd]
  clear hd
  generalize num l code = r at *
  obtain ⟨n, l', c'⟩ := r
  simp only at hr HN ⊢
  obtain ⟨h0, h1⟩ := hr
  have HN := Aside0.mk HN
  have hlt : n < 2 ^ 64 := by rw [two64]; exact h1
  clear h hby
  by_cases hc : c' = 0
  · subst hc
    rw [if_pos rfl]
    by_cases hm : m < 1
    · rw [if_pos (Or.inl hm)]
      have hml : m ≤ 0 := by omega
      clear hm
      go_enter Try.func43, Try.ntmps43
      go_wp2_with (first | (go_at_call 60; refine HN.out.mono ?_; rintro e w1 ⟨rfl, hr1, hk1, hs1⟩; obtain ⟨hc2, hf2⟩ := hr1.code; have HR1 := Aside0.mk hr1; clear hr1))
      go_ret
      exact ⟨rfl, HR1.out.set 2, hk1.setCell _ _ (fun _ => rfl), by rw [World.size_setCell]; exact hs1⟩
    · have hml : ¬ m ≤ 0 := by omega
      by_cases hn : m ≤ n
      · rw [if_pos (Or.inr hn)]
        go_enter Try.func43, Try.ntmps43
        go_wp2_with (first | (go_at_call 60; refine HN.out.mono ?_; rintro e w1 ⟨rfl, hr1, hk1, hs1⟩; obtain ⟨hc2, hf2⟩ := hr1.code; have HR1 := Aside0.mk hr1; clear hr1))
        go_ret
        exact ⟨rfl, HR1.out.set 2, hk1.setCell _ _ (fun _ => rfl), by rw [World.size_setCell]; exact hs1⟩
      · rw [if_neg (by omega)]
        go_enter Try.func43, Try.ntmps43
        go_wp2_with (first | (go_at_call 60; refine HN.out.mono ?_; rintro e w1 ⟨rfl, hr1, hk1, hs1⟩; obtain ⟨hc2, hf2⟩ := hr1.code))
        go_ret
        exact ⟨rfl, hr1, hk1, hs1⟩
  · rw [if_neg hc]
    have hcb : (c' == 0) = false := beq_eq_false_iff_ne.mpr hc
    have hcn : (c' != 0) = true := bne_iff_ne.mpr hc
    clear hc
    go_enter Try.func43, Try.ntmps43
    go_wp2_with (first | (go_at_call 60; refine HN.out.mono ?_; rintro e w1 ⟨rfl, hr1, hk1, hs1⟩; obtain ⟨hc2, hf2⟩ := hr1.code))
    go_ret
    exact ⟨rfl, hr1, hk1, hs1⟩

set_option maxHeartbeats 1000000 in
theorem put_calls (A : Option Addr) (c : Nat) (l : List Int) (n : Int) (w : World) (hC : kU8.C w A l.length l) (hll : l.length ≤ 140737488355300) (h0 : 0 ≤ n) (h1 : n < 18446744073709551616) :
    Calls Try.prog 29 #[.slice A l.length c, .int .u64 n] w fun e w' => ∃ v, e = .returned v ∧ kU8.R 5 w' w.heap.size (fun _ => True) v (l ++ putl n.toNat) ∧ Below w.heap.size w w' := by
  have HC := Aside0.mk hC
  clear hC
  go_enter Try.func29, Try.ntmps29
  go_wp2_with (first | ((with_reducible refine gate_builtin (b := .append) (xs := #[.tmp 7, .tmp 8]) rfl ?_); at_builtin; refine Kd.R_append_rows (Kd.int .u8) (w0 := w) w.heap.size rfl (.tmp 7) (.tmp 8) 24 5 (.int .u8 0) 1 rfl Try.underlying24 infoU8 rfl (by decide) (by omega) (.slice (some ⟨w.heap.size, 0, none⟩) 0 0) ([] : List Int) l _ _ _ (fun _ => True) (fun _ => False) rfl rfl ?aO ?aR (fun _ _ h => h) (fun _ h => h.elim) ?aF ?aB ?aS ?aL ?_; (case aR => exact Kd.C_alloc HC.out _); (case aB => exact (Below.refl _ _).alloc (Nat.le_refl _) _); (case aF => exact (fun _ _ => trivial)); (case aO => exact R_lit0 kU8 5 w); (case aS => simp); (case aL => (simp only [List.length_nil]; omega)); (intro v1 w1 ho hb1 hg hat; rw [List.nil_append] at ho; have HO := Aside0.mk ho; have HW := Aside0.mk hb1; clear ho hb1 hg hat)))
  go_loopw [1, 5] (fun vn vb wr => ∃ (m : Int) (xs : List Int), vn = .int .u64 m ∧ 0 ≤ m ∧ m < 18446744073709551616 ∧ Aside0 (xs ++ putl m.toNat = l ++ putl n.toNat) ∧ Aside0 (kU8.R 5 wr w.heap.size (fun _ => True) vb xs) ∧ Aside0 (Below w.heap.size w wr)) (fun vn _ _ => (intOf vn).toNat)
  case atStart => exact ⟨n, l, rfl, h0, h1, ⟨rfl⟩, HO, HW⟩
  case round =>
    clear HO HW
    obtain ⟨m, xs, rfl, hm0, hm1, HE, HO, HW⟩ := hrel
    have hlen := congrArg List.length HE.out
    rw [List.length_append, List.length_append] at hlen
    have h10 := putl_ten n.toNat (by omega)
    have h1 := (putl_len m.toNat).1
    have hxl : xs.length ≤ 140737488355310 := by omega
    clear hlen h10 h1
    by_cases hlt : m < 128
    · have hp := putl_lt (n := m.toNat) (by omega)
      rw [show ((m.toNat : Nat) : Int) = m % 128 by omega] at hp
      have HP := Aside0.mk hp
      have hz : (m / 128 == 0) = true := by rw [beq_iff_eq]; omega
      clear hp
      go_wp2_with (first | ((with_reducible refine gate_builtin (b := .append) (xs := #[.tmp 16, .tmp 19]) rfl ?_); at_builtin; refine Kd.R_append (Kd.int .u8) (w0 := w) w.heap.size rfl (.tmp 16) (.tmp 19) 24 5 (.int .u8 0) 1 rfl Try.underlying24 infoU8 rfl (by decide) (by omega) u5 xs (m % 128) [.int .u8 (m % 128)] (fun _ => True) (fun _ => False) rfl rfl ?aP (fun _ hk => hk.elim) ?aF ?aO ?aB ?aS ?aL ?_; (case aP => exact rfl); (case aB => exact HW.out); (case aF => exact (fun _ _ => trivial)); (case aO => exact HO.out); (case aS => exact HW.out.size); (case aL => omega); (intro v1 w1 ho hb1 hg hat; have HO2 := Aside0.mk ho; have HW2 := Aside0.mk hb1; clear ho hb1 hg hat)))
      go_ret
      exact ⟨_, rfl, by rw [← HE.out, HP.out]; exact HO2.out, HW2.out⟩
    · have hp := putl_ge (n := m.toNat) (by omega)
      rw [show ((m.toNat % 128 + 128 : Nat) : Int) = m % 128 + 128 by omega, show m.toNat / 128 = (m / 128).toNat by omega] at hp
      have HP := Aside0.mk hp
      have hz : (m / 128 == 0) = false := by rw [beq_eq_false_iff_ne]; omega
      clear hp
      go_wp2_with (first | ((with_reducible refine gate_builtin (b := .append) (xs := #[.tmp 21, .tmp 25]) rfl ?_); at_builtin; refine Kd.R_append (Kd.int .u8) (w0 := w) w.heap.size rfl (.tmp 21) (.tmp 25) 24 5 (.int .u8 0) 1 rfl Try.underlying24 infoU8 rfl (by decide) (by omega) u5 xs (m % 128 + 128) [.int .u8 (m % 128 + 128)] (fun _ => True) (fun _ => False) rfl rfl ?aP (fun _ hk => hk.elim) ?aF ?aO ?aB ?aS ?aL ?_; (case aP => exact rfl); (case aB => exact HW.out); (case aF => exact (fun _ _ => trivial)); (case aO => exact HO.out); (case aS => exact HW.out.size); (case aL => omega); (intro v1 w1 ho hb1 hg hat; have HO2 := Aside0.mk ho; have HW2 := Aside0.mk hb1; clear ho hb1 hg hat)))
      go_roundw
      case rel => exact ⟨m / 128, _, rfl, by omega, by omega, ⟨by rw [← HE.out, HP.out, List.append_assoc]; rfl⟩, HO2, HW2⟩
      case measure => simp [intOf]; omega
end Go.Proofs.Ytfcpnjoiloahcaa.Lr
namespace Go.Proofs.Ytfcpnjoiloahcaa.Gc
open Go.RowKit Go.Proofs.YtfcpnjoiloahcaaW.PrintWords Go.Proofs.YtfcpnjoiloahcaaW.PrintLast Go.Proofs.YtfcpnjoiloahcaaW.PrintMore Go.Proofs.Ytfcpnjoiloahcaa.B Go.Proofs.Ytfcpnjoiloahcaa.Ls Go.Proofs.Ytfcpnjoiloahcaa.Gs Go.Proofs.Ytfcpnjoiloahcaa.S
set_option linter.unusedVariables false
set_option linter.unusedSimpArgs false
set_option maxHeartbeats 4000000 in
set_option maxRecDepth 100000 in
theorem rsum_calls (A : Option Addr) (c : Nat) (l : List Int) (n : Nat) (hn : l.length = n) (w : World) (hC : kU8.C w A n l) (hby : By l) :
    Calls Try.prog 59 #[.slice A n c] w fun e w' => e = .returned (.int .u32 (sumL l)) ∧ w = w' := by
  subst hn
  have HC := Aside0.mk hC
  have HBY := Aside0.mk hby
  have hll := hC.2.1
  clear hC hby
  go_enter Try.func59, Try.ntmps59
  go_wp2_with fail
  go_loopw [3, 4] (fun vx vi wr => wr = w ∧ ∃ (i : Nat) (y : Int), i ≤ l.length ∧ vi = .int .i64 i ∧ vx = .int .u32 y ∧ 0 ≤ y ∧ y < 4294967296 ∧ Aside0 (y = crcL (l.take i) 4294967295)) (fun _ vi _ => l.length - (intOf vi).toNat)
  case atStart => exact ⟨rfl, 0, _, by omega, rfl, rfl, by decide, by decide, ⟨rfl⟩⟩
  case round =>
    obtain ⟨rfl, i, y, hi, rfl, rfl, hy0, hy1, HY⟩ := hrel
    by_cases hil : i < l.length
    · obtain ⟨b, hb⟩ : ∃ b, l[i]? = some b := ⟨_, List.getElem?_eq_getElem hil⟩
      obtain ⟨ad1, rfl⟩ : ∃ ad, A = some ad := by obtain ⟨ad, e, _⟩ := HC.out.2.2 (by omega); exact ⟨ad, e⟩
      have q2 := C_cell HC.out hb
      obtain ⟨hb0, hb1⟩ := HBY.out.at hb
      have HT := Aside0.mk (show crcL (l.take (i + 1)) 4294967295 = crcByte y b by rw [crcL_take _ hb, HY.out])
      clear hb HY
      go_wp2_with fail
      have hxr := xor_range y b
      obtain ⟨z0, hz0⟩ : ∃ z, Go.bits .xor .u32 y b = z := ⟨_, rfl⟩
      rw [hz0] at hxr
      rw [hz0]
      have HZ := Aside0.mk hz0
      clear hz0
      obtain ⟨hz00, hz01⟩ := hxr
      go_loopw [3, 5] (fun vx vi wr' => wr' = wr ∧ ∃ (j : Nat) (z : Int), j ≤ 8 ∧ vi = .int .i64 j ∧ vx = .int .u32 z ∧ 0 ≤ z ∧ z < 4294967296 ∧ Aside0 (crcBits (8 - j) z = crcByte y b)) (fun _ vi _ => 8 - (intOf vi).toNat)
      case atStart => exact ⟨rfl, 0, z0, by omega, rfl, rfl, hz00, hz01, ⟨by rw [← HZ.out]; rfl⟩⟩
      case round =>
        obtain ⟨rfl, j, z, hj, rfl, rfl, hz0, hz1, HZ⟩ := hrel
        by_cases hj8 : j < 8
        · have hr := crcBit_range z hz0 hz1
          have HZ2 := Aside0.mk (show crcBits (8 - (j + 1)) (crcBit z) = crcByte y b by rw [← HZ.out, show 8 - j = (8 - (j + 1)) + 1 by omega]; rfl)
          by_cases hodd : z % 2 = 1
          · have ho : (z % 2 == 1) = true := by rw [hodd]; rfl
            have hcb : crcBit z = Go.bits .xor .u32 (z / 2) 3988292384 := if_pos hodd
            rw [hcb] at HZ2 hr
            clear hcb hodd
            go_wp2
            go_roundw
            case rel => exact ⟨by first | rfl | trivial, j + 1, _, by omega, by go_num, rfl, hr.1, hr.2, HZ2⟩
            case measure => simp [intOf]; omega
          · have ho : (z % 2 == 1) = false := beq_eq_false_iff_ne.mpr hodd
            have hcb : crcBit z = z / 2 := if_neg hodd
            rw [hcb] at HZ2 hr
            clear hcb hodd
            go_wp2
            go_roundw
            case rel => exact ⟨by first | rfl | trivial, j + 1, _, by omega, by go_num, rfl, by omega, by omega, HZ2⟩
            case measure => simp [intOf]; omega
        · have hje : j = 8 := by omega
          subst hje
          go_wp2
          go_roundw
          case rel => exact ⟨by first | rfl | trivial, i + 1, z, by omega, by go_num, rfl, hz0, hz1, ⟨by rw [HT.out, ← HZ.out]; rfl⟩⟩
          case measure => simp [intOf]; omega
    · have hie : i = l.length := by omega
      subst hie
      go_wp2
      go_ret
      rw [List.take_length] at HY
      refine ⟨?_, rfl⟩
      rw [sumL, ← HY.out]
      rfl
/-- A literal of whole numbers. -/
theorem R_litk (k : IntKind) (e : Nat) (W : World) (xs : List Int) (hm : xs.length ≤ 9223372036854775807) : (Kd.int k).R e (W.alloc (.cells (xs.map (Value.int k)).toArray e)) W.heap.size (fun _ => True) (.slice (some ⟨W.heap.size, 0, none⟩) xs.length xs.length) xs :=
  Kd.R_of_own (own_lit W W.heap.size e k xs (Nat.le_refl _) hm) (fun _ _ => trivial)
/-- A literal of two rows of bytes. -/
theorem kL_two {w : World} {A1 A2 : Option Addr} {c1 c2 n1 n2 : Nat} {l1 l2 : List Int} (h1 : kU8.C w A1 n1 l1) (h2 : kU8.C w A2 n2 l2) (hc1 : n1 ≤ c1) (hc2 : n2 ≤ c2) (e : Nat) :
    kL.C (w.alloc (.cells #[.slice A1 n1 c1, .slice A2 n2 c2] e)) (some ⟨w.heap.size, 0, none⟩) 2 [l1, l2] := by
  obtain rfl := h1.1
  obtain rfl := h2.1
  refine ⟨rfl, by decide, fun _ => ⟨_, rfl, fun j p hj => ?_⟩⟩
  have cell : ∀ (j : Nat) (v : Value), (#[.slice A1 l1.length c1, .slice A2 l2.length c2] : Array Value)[j]? = some v → (w.alloc (.cells #[.slice A1 l1.length c1, .slice A2 l2.length c2] e)).cell? ((⟨w.heap.size, 0, none⟩ : Addr).add j) = some v := fun j v h => by
    have hadd : (⟨w.heap.size, 0, none⟩ : Addr).add j = ⟨w.heap.size, j, none⟩ := by unfold Addr.add; split <;> simp_all
    rw [hadd, cell_of_row _ w.heap.size j _ e (0, 0) (heap_alloc_new _ _)]
    exact h
  have hs : kL.sz = 1 := rfl
  match j, hj with
  | 0, hj =>
    have := Option.some.inj hj
    subst this
    refine ⟨[.slice A1 l1.length c1], rfl, ⟨A1, c1, rfl, hc1, Kd.C_alloc h1 _⟩, fun i u hu => ?_⟩
    obtain ⟨rfl, rfl⟩ : i = 0 ∧ u = .slice A1 l1.length c1 := by
      rcases i with _ | i
      · exact ⟨rfl, by simpa using hu.symm⟩
      · simp at hu
    exact cell _ _ rfl
  | 1, hj =>
    have := Option.some.inj hj
    subst this
    refine ⟨[.slice A2 l2.length c2], rfl, ⟨A2, c2, rfl, hc2, Kd.C_alloc h2 _⟩, fun i u hu => ?_⟩
    obtain ⟨rfl, rfl⟩ : i = 0 ∧ u = .slice A2 l2.length c2 := by
      rcases i with _ | i
      · exact ⟨rfl, by simpa using hu.symm⟩
      · simp at hu
    exact cell _ _ rfl
  | n + 2, hj => simp at hj
/-- A sum's four bytes as the program has them. -/
def fourV (k : Int) (b : List Int) : Value := .agg #[.int .u8 (sumL (k :: b) % 256), .int .u8 (sumL (k :: b) / 256 % 256), .int .u8 (sumL (k :: b) / 65536 % 256), .int .u8 (sumL (k :: b) / 16777216)]
set_option maxHeartbeats 4000000 in
set_option maxRecDepth 100000 in
theorem four_calls (k : Int) (hk0 : 0 ≤ k) (hk1 : k < 256) (A : Option Addr) (c : Nat) (b : List Int) (w : World) (hC : kU8.C w A b.length b) (hc : b.length ≤ c) (hby : By b) :
    Calls Try.prog 54 #[.int .u8 k, .slice A b.length c] w fun e w' => e = .returned (fourV k b) ∧ Below w.heap.size w w' := by
  have HC := Aside0.mk hC
  have hsr := sumL_range (k :: b)
  have hby2 : ∀ l ∈ [[k], b], By l := fun l hl => by
    simp only [List.mem_cons, List.not_mem_nil, or_false] at hl
    rcases hl with rfl | rfl
    · intro x hx; simp at hx; omega
    · exact hby
  have HBY := Aside0.mk hby2
  have HE := Aside0.mk (show fourV k b = .agg #[.int .u8 (sumL (k :: b) % 256), .int .u8 (sumL (k :: b) / 256 % 256), .int .u8 (sumL (k :: b) / 65536 % 256), .int .u8 (sumL (k :: b) / 16777216)] from rfl)
  obtain ⟨n, hn⟩ : ∃ n, sumL (k :: b) = n := ⟨_, rfl⟩
  rw [hn] at HE hsr
  have HN := Aside0.mk (show sumL ([[k], b] : List (List Int)).flatten = n by rw [← hn]; simp)
  obtain ⟨hn0, hn1⟩ := hsr
  have hcall : Calls Try.prog 69 #[.slice (some ⟨w.heap.size + 1 + 1, 0, none⟩) 2 2] (((w.alloc (.cells #[.int .u8 0, .int .u8 0, .int .u8 0, .int .u8 0] 104)).alloc (.cells #[.int .u8 k] 5)).alloc (.cells #[.slice (some ⟨w.heap.size + 1, 0, none⟩) 1 1, .slice A b.length c] 24)) fun e w' => e = .returned (.int .u32 n) ∧ (((w.alloc (.cells #[.int .u8 0, .int .u8 0, .int .u8 0, .int .u8 0] 104)).alloc (.cells #[.int .u8 k] 5)).alloc (.cells #[.slice (some ⟨w.heap.size + 1, 0, none⟩) 1 1, .slice A b.length c] 24)) = w' := by
    obtain ⟨W1, hW1⟩ : ∃ W1, W1 = w.alloc (.cells #[.int .u8 0, .int .u8 0, .int .u8 0, .int .u8 0] 104) := ⟨_, rfl⟩
    have e1 : W1.heap.size = w.heap.size + 1 := by rw [hW1]; exact World.size_alloc _ _
    have hCb : kU8.C W1 A b.length b := by rw [hW1]; exact Kd.C_alloc hC _
    rw [← hW1, ← e1]
    obtain ⟨W2, hW2⟩ : ∃ W2, W2 = W1.alloc (.cells #[.int .u8 k] 5) := ⟨_, rfl⟩
    have e2 : W2.heap.size = W1.heap.size + 1 := by rw [hW2]; exact World.size_alloc _ _
    have hk : kU8.C W2 (some ⟨W1.heap.size, 0, none⟩) 1 [k] := by rw [hW2]; exact C_lit .u8 5 W1 [k] (by simp)
    have hCb2 : kU8.C W2 A b.length b := by rw [hW2]; exact Kd.C_alloc hCb _
    rw [← hW2, ← e2]
    have h := sum_calls (some ⟨W2.heap.size, 0, none⟩) 2 [[k], b] _ (kL_two (c1 := 1) hk hCb2 (Nat.le_refl 1) hc 24) HBY.out
    rw [HN.out] at h
    exact h
  have HCALL := Aside0.mk hcall
  have q1 := Int.emod_nonneg n (show (256 : Int) ≠ 0 by decide)
  clear hC hby hby2 hn hcall q1
  go_enter Try.func54, Try.ntmps54
  go_wp2_with (first | (go_at_call 69; refine HCALL.out.mono ?_; rintro e w1 ⟨rfl, rfl⟩))
  refine bodyPost_ret (results_cell_row rfl _ _ w.heap.size 104 _ (0, 0) _ rfl ((Below.heap_alloc _ _ _ (by simp; omega)).trans ((Below.heap_alloc _ _ _ (by simp)).trans (heap_alloc_new w _))) Try.underlying104 rfl (by kernel_rfl)) rfl ?_
  exact ⟨by rw [HE.out], (((Below.refl _ _).alloc (Nat.le_refl _) _).alloc (by simp) _).alloc (by simp; omega) _⟩
/-- The same four bytes as the reference has them. -/
theorem check_eq (k : Int) (b : List Int) : check k b = [sumL (k :: b) % 256, sumL (k :: b) / 256 % 256, sumL (k :: b) / 65536 % 256, sumL (k :: b) / 16777216] := rfl
set_option maxHeartbeats 4000000 in
set_option maxRecDepth 100000 in
theorem check_calls (k : Int) (hk0 : 0 ≤ k) (hk1 : k < 256) (A : Option Addr) (c : Nat) (b : List Int) (m : Nat) (hm : b.length = m) (w : World) (hC : kU8.C w A m b) (hll : m ≤ 140737488355300) (hby : By b) :
    Calls Try.prog 37 #[.int .u8 k, .slice A m c] w fun e w' => ∃ g, e = .returned (.slice (some ⟨g, 0, none⟩) 4 4) ∧ kU8.C w' (some ⟨g, 0, none⟩) 4 (check k b) ∧ Below w.heap.size w w' := by
  subst hm
  have HC := Aside0.mk hC
  have hsr := sumL_range (k :: b)
  have HBY := Aside0.mk (show By (k :: b) from fun x hx => by
    rcases List.mem_cons.1 hx with rfl | hx
    · omega
    · exact hby x hx)
  have HE := Aside0.mk (check_eq k b)
  obtain ⟨n, hn⟩ : ∃ n, sumL (k :: b) = n := ⟨_, rfl⟩
  rw [hn] at HE hsr
  have HN := Aside0.mk hn
  obtain ⟨hn0, hn1⟩ := hsr
  obtain ⟨nb, hnb⟩ : ∃ nb, (k :: b).length = nb := ⟨_, rfl⟩
  have HNB := Aside0.mk hnb
  have HR0 := Aside0.mk (show kU8.R 5 (w.alloc (.cells #[.int .u8 k] 5)) w.heap.size (fun _ => True) (.slice (some ⟨w.heap.size, 0, none⟩) 1 1) [k] from R_litk .u8 5 w [k] (by simp))
  clear hC hby hn hnb
  go_enter Try.func37, Try.ntmps37
  go_wp2_with (first
    | ((with_reducible refine gate_builtin (b := .append) (xs := #[.tmp 7, .tmp 8]) rfl ?_); at_builtin; refine Kd.R_append_rows (Kd.int .u8) (w0 := w) w.heap.size rfl (.tmp 7) (.tmp 8) 24 5 (.int .u8 0) 1 rfl Try.underlying24 infoU8 rfl (by decide) (by omega) (.slice (some ⟨w.heap.size, 0, none⟩) 1 1) [k] b _ _ _ (fun _ => True) (fun _ => False) rfl rfl ?aO ?aR (fun _ _ h => h) (fun _ h => h.elim) ?aF ?aB ?aS ?aL ?_; (case aR => exact Kd.C_alloc HC.out _); (case aB => exact (Below.refl _ _).alloc (Nat.le_refl _) _); (case aF => exact (fun _ _ => trivial)); (case aO => exact HR0.out); (case aS => simp); (case aL => (simp only [List.length_cons, List.length_nil]; omega)); (intro v1 w1 ho hb1 hg hat; obtain ⟨A1, c1, hv, -, hC1⟩ := Kd.R_reads ho; rw [show ([k] ++ b).length = nb from HNB.out] at hv hC1; subst hv; have HC1 := Aside0.mk hC1; have HB1 := Aside0.mk hb1; clear ho hb1 hg hat hC1))
    | (go_at_call 59; refine (rsum_calls A1 c1 (k :: b) nb HNB.out _ HC1.out HBY.out).mono ?_; rw [HN.out]; rintro e w2 ⟨rfl, rfl⟩))
  go_ret
  refine ⟨w1.heap.size, rfl, ?_, HB1.out.alloc HB1.out.size _⟩
  rw [HE.out]
  exact C_lit .u8 5 w1 [n % 256, n / 256 % 256, n / 65536 % 256, n / 16777216] (by simp)
end Go.Proofs.Ytfcpnjoiloahcaa.Gc
namespace Go.Proofs.Ytfcpnjoiloahcaa.Gc
open Go.RowKit Go.Proofs.YtfcpnjoiloahcaaW.PrintWords Go.Proofs.YtfcpnjoiloahcaaW.PrintLast Go.Proofs.YtfcpnjoiloahcaaW.PrintMore Go.Proofs.Ytfcpnjoiloahcaa.B Go.Proofs.Ytfcpnjoiloahcaa.Ls Go.Proofs.Ytfcpnjoiloahcaa.Gs Go.Proofs.Ytfcpnjoiloahcaa.S
set_option linter.unusedVariables false
set_option linter.unusedSimpArgs false
theorem lay_eq (k : Int) (b : List Int) : (([111, k] ++ putl b.length) ++ check k b) ++ b = layL k b := by simp [layL]
theorem lay_long (k : Int) (A : Option Addr) (c : Nat) (b : List Int) (w : World) (hl : 65536 < b.length) :
    Calls Try.prog 35 #[.int .u8 k, .slice A b.length c] w fun e w' => e = .returned (.tuple #[.slice none 0 0, .int .i64 4]) ∧ w = w' := by
  go_enter Try.func35, Try.ntmps35
  go_wp2
  go_ret2
  exact ⟨rfl, rfl⟩
set_option maxHeartbeats 4000000 in
set_option maxRecDepth 100000 in
theorem lay_calls (k : Int) (hk0 : 0 ≤ k) (hk1 : k < 256) (A : Option Addr) (c : Nat) (b : List Int) (w : World) (hC : kU8.C w A b.length b) (hc : b.length ≤ c) (hby : By b) (hl : b.length ≤ 65536) :
    Calls Try.prog 35 #[.int .u8 k, .slice A b.length c] w fun e w' => ∃ v, e = .returned (.tuple #[v, .int .i64 0]) ∧ kU8.R 5 w' w.heap.size (fun _ => True) v (layL k b) ∧ Below w.heap.size w w' := by
  have HC := Aside0.mk hC
  have HBY := Aside0.mk hby
  have HE := Aside0.mk (show fourV k b = .agg #[.int .u8 (sumL (k :: b) % 256), .int .u8 (sumL (k :: b) / 256 % 256), .int .u8 (sumL (k :: b) / 65536 % 256), .int .u8 (sumL (k :: b) / 16777216)] from rfl)
  have HCE := Aside0.mk (check_eq k b)
  obtain ⟨n, hn⟩ : ∃ n, sumL (k :: b) = n := ⟨_, rfl⟩
  rw [hn] at HE HCE
  obtain ⟨ph, hph⟩ : ∃ ph, [111, k] ++ putl b.length = ph := ⟨_, rfl⟩
  have hpl := (putl_three hl).2
  have hpl2 : ph.length ≤ 5 := by rw [← hph, List.length_append]; simp; omega
  have HPH := Aside0.mk hph
  have HLE := Aside0.mk (lay_eq k b)
  rw [hph] at HLE
  clear hC hby hn hph hpl
  have y1 := wrU64 (b.length : Int) (by omega) (by omega)
  go_enter Try.func35, Try.ntmps35
  go_wp2_with (first
    | (go_at_call 53; refine (Lc.put_calls (some ⟨w.heap.size, 0, none⟩) 2 [111, k] b.length _ (C_lit .u8 5 w [111, k] (by simp)) (by simp) (by omega) (by omega)).mono ?_; rintro e w1 ⟨v1, rfl, ho1, hb1⟩; rw [Int.toNat_natCast, HPH.out] at ho1; have HO1 := Aside0.mk (Kd.R_lower (base' := w.heap.size) ho1 (by simp)); have HB1 := Aside0.mk (((Below.refl w.heap.size w).alloc (Nat.le_refl _) (.cells #[.int .u8 111, .int .u8 k] 5)).trans (hb1.mono (by simp))); clear ho1 hb1)
    | (go_at_call 54; refine (four_calls k hk0 hk1 A c b _ (Kd.C_below HC.out HB1.out) hc HBY.out).mono ?_; rw [HE.out]; rintro e w2 ⟨rfl, hb2⟩; have HB2 := Aside0.mk (HB1.out.trans (hb2.mono HB1.out.size)); have HO2 := Aside0.mk (Kd.R_below HO1.out hb2); clear hb2)
    | ((with_reducible refine gate_builtin (b := .append) (xs := #[.tmp 20, .tmp 21]) rfl ?_); at_builtin; refine Kd.R_append_rows (Kd.int .u8) (w0 := w) w.heap.size rfl (.tmp 20) (.tmp 21) 24 5 (.int .u8 0) 1 rfl Try.underlying24 infoU8 rfl (by decide) (by omega) v1 ph (check k b) _ _ _ (fun _ => True) (fun _ => False) rfl rfl ?aO ?aR (fun _ _ h => h) (fun _ h => h.elim) ?aF ?aB ?aS ?aL ?_; (case aR => exact (by rw [HCE.out]; exact C_lit .u8 104 w2 [n % 256, n / 256 % 256, n / 65536 % 256, n / 16777216] (by simp))); (case aB => exact (HB2.out.alloc HB2.out.size _)); (case aF => exact (fun _ _ => trivial)); (case aO => exact (Kd.R_below HO2.out ((Below.refl _ _).alloc (Nat.le_refl _) _))); (case aS => (simp only [World.size_alloc]; have := HB2.out.size; omega)); (case aL => omega); (intro v3 w3 ho3 hb3 hg hat; have HO3 := Aside0.mk ho3; have HB3 := Aside0.mk hb3; clear ho3 hb3 hg hat))
    | ((with_reducible refine gate_builtin (b := .append) (xs := #[.tmp 22, .tmp 23]) rfl ?_); at_builtin; refine Kd.R_append_rows (Kd.int .u8) (w0 := w) w.heap.size rfl (.tmp 22) (.tmp 23) 24 5 (.int .u8 0) 1 rfl Try.underlying24 infoU8 rfl (by decide) (by omega) v3 (ph ++ check k b) b _ _ _ (fun _ => True) (fun _ => False) rfl rfl ?aO ?aR (fun _ _ h => h) (fun _ h => h.elim) ?aF ?aB ?aS ?aL ?_; (case aR => exact (Kd.C_below HC.out HB3.out)); (case aB => exact HB3.out); (case aF => exact (fun _ _ => trivial)); (case aO => exact HO3.out); (case aS => (exact HB3.out.size)); (case aL => (simp only [List.length_append, check_len]; omega)); (intro v4 w4 ho4 hb4 hg hat; rw [HLE.out] at ho4; have HO4 := Aside0.mk ho4; have HB4 := Aside0.mk hb4; clear ho4 hb4 hg hat)))
  go_ret2
  exact ⟨_, rfl, HO4.out, HB4.out⟩
set_option maxHeartbeats 4000000 in
set_option maxRecDepth 100000 in
theorem rlay_calls (k : Int) (hk0 : 0 ≤ k) (hk1 : k < 256) (A : Option Addr) (c : Nat) (b : List Int) (w : World) (hC : kU8.C w A b.length b) (hby : By b) (hl : b.length ≤ 1000000) :
    Calls Try.prog 11 #[.int .u8 k, .slice A b.length c] w fun e w' => ∃ v, e = .returned v ∧ kU8.R 5 w' w.heap.size (fun _ => True) v (layL k b) ∧ Below w.heap.size w w' := by
  have HC := Aside0.mk hC
  have HBY := Aside0.mk hby
  obtain ⟨ph, hph⟩ : ∃ ph, [111, k] ++ putl b.length = ph := ⟨_, rfl⟩
  have hpl := putl_ten b.length (by omega)
  have hpl2 : ph.length ≤ 12 := by rw [← hph, List.length_append]; simp; omega
  have HPH := Aside0.mk hph
  have HLE := Aside0.mk (lay_eq k b)
  rw [hph] at HLE
  clear hC hby hph hpl
  have y1 := wrU64 (b.length : Int) (by omega) (by omega)
  go_enter Try.func11, Try.ntmps11
  go_wp2_with (first
    | (go_at_call 29; refine (Lr.put_calls (some ⟨w.heap.size, 0, none⟩) 2 [111, k] b.length _ (C_lit .u8 5 w [111, k] (by simp)) (by simp) (by omega) (by omega)).mono ?_; rintro e w1 ⟨v1, rfl, ho1, hb1⟩; rw [Int.toNat_natCast, HPH.out] at ho1; have HO1 := Aside0.mk (Kd.R_lower (base' := w.heap.size) ho1 (by simp)); have HB1 := Aside0.mk (((Below.refl w.heap.size w).alloc (Nat.le_refl _) (.cells #[.int .u8 111, .int .u8 k] 5)).trans (hb1.mono (by simp))); clear ho1 hb1)
    | (go_at_call 37; refine (check_calls k hk0 hk1 A c b b.length rfl _ (Kd.C_below HC.out HB1.out) (by omega) HBY.out).mono ?_; rintro e w2 ⟨g2, rfl, hC9, hb2⟩; have HB2 := Aside0.mk (HB1.out.trans (hb2.mono HB1.out.size)); have HO2 := Aside0.mk (Kd.R_below HO1.out hb2); have HC2 := Aside0.mk hC9; clear hb2 hC9)
    | ((with_reducible refine gate_builtin (b := .append) (xs := #[.tmp 10, .tmp 13]) rfl ?_); at_builtin; refine Kd.R_append_rows (Kd.int .u8) (w0 := w) w.heap.size rfl (.tmp 10) (.tmp 13) 24 5 (.int .u8 0) 1 rfl Try.underlying24 infoU8 rfl (by decide) (by omega) v1 ph (check k b) _ _ _ (fun _ => True) (fun _ => False) rfl rfl ?aO ?aR (fun _ _ h => h) (fun _ h => h.elim) ?aF ?aB ?aS ?aL ?_; (case aR => exact HC2.out); (case aB => exact HB2.out); (case aF => exact (fun _ _ => trivial)); (case aO => exact HO2.out); (case aS => (exact HB2.out.size)); (case aL => omega); (intro v3 w3 ho3 hb3 hg hat; have HO3 := Aside0.mk ho3; have HB3 := Aside0.mk hb3; clear ho3 hb3 hg hat))
    | ((with_reducible refine gate_builtin (b := .append) (xs := #[.tmp 14, .tmp 15]) rfl ?_); at_builtin; refine Kd.R_append_rows (Kd.int .u8) (w0 := w) w.heap.size rfl (.tmp 14) (.tmp 15) 24 5 (.int .u8 0) 1 rfl Try.underlying24 infoU8 rfl (by decide) (by omega) v3 (ph ++ check k b) b _ _ _ (fun _ => True) (fun _ => False) rfl rfl ?aO ?aR (fun _ _ h => h) (fun _ h => h.elim) ?aF ?aB ?aS ?aL ?_; (case aR => exact (Kd.C_below HC.out HB3.out)); (case aB => exact HB3.out); (case aF => exact (fun _ _ => trivial)); (case aO => exact HO3.out); (case aS => (exact HB3.out.size)); (case aL => (simp only [List.length_append, check_len]; omega)); (intro v4 w4 ho4 hb4 hg hat; rw [HLE.out] at ho4; have HO4 := Aside0.mk ho4; have HB4 := Aside0.mk hb4; clear ho4 hb4 hg hat)))
  go_ret
  exact ⟨_, rfl, HO4.out, HB4.out⟩
end Go.Proofs.Ytfcpnjoiloahcaa.Gc
namespace Go.Proofs.Ytfcpnjoiloahcaa.Lc
open Go.RowKit Go.Proofs.YtfcpnjoiloahcaaW.PrintWords Go.Proofs.YtfcpnjoiloahcaaW.PrintLast Go.Proofs.YtfcpnjoiloahcaaW.PrintMore Go.Proofs.Ytfcpnjoiloahcaa.B Go.Proofs.Ytfcpnjoiloahcaa.Ls
set_option linter.unusedVariables false
set_option linter.unusedSimpArgs false

theorem code_calls (g b : Nat) (l : List Int) (code : Int) (w : World) (h : Rdr 122 w g b l code) :
    Calls Try.prog 57 #[.pointer (some ⟨g, 0, none⟩)] w fun e w' => e = .returned (.int .i64 code) ∧ w = w' := by
  obtain ⟨hc, hf⟩ := h.code
  clear h
  go_enter Try.func57, Try.ntmps57
  go_wp2
  go_ret
  exact ⟨rfl, rfl⟩
theorem left_calls (g b : Nat) (l : List Int) (code : Int) (w : World) (h : Rdr 122 w g b l code) :
    Calls Try.prog 58 #[.pointer (some ⟨g, 0, none⟩)] w fun e w' => e = .returned (.int .i64 l.length) ∧ w = w' := by
  obtain ⟨A, c, hc, -⟩ := h.left
  clear h
  go_enter Try.func58, Try.ntmps58
  go_wp2
  go_ret
  exact ⟨rfl, rfl⟩
theorem end_calls (g b : Nat) (l : List Int) (code : Int) (w : World) (h : Rdr 122 w g b l code) :
    Calls Try.prog 63 #[.pointer (some ⟨g, 0, none⟩)] w fun e w' => e = .returned (.int .i64 (ended l code)) ∧ Rdr 122 w' g b l (ended l code) ∧ Keep (· = g) w w' ∧ w'.heap.size = w.heap.size := by
  have HR := Aside0.mk h
  obtain ⟨A, c, hc0, -⟩ := h.left
  obtain ⟨hc1, -⟩ := h.code
  clear h
  by_cases h0 : 0 < l.length
  · have he : ended l code = failed 5 code := if_pos h0
    have HE := Aside0.mk he
    clear he
    go_enter Try.func63, Try.ntmps63
    go_wp2_with (first | (go_at_call 70; refine (fail_calls g b l code 5 _ HR.out).mono ?_; rintro e w1 ⟨rfl, hr1, hk1, hs1⟩; have hc2 := hr1.code.1))
    go_ret
    exact ⟨ret_eq HE.out.symm, by rw [HE.out]; exact hr1, hk1, hs1⟩
  · have he : ended l code = code := if_neg h0
    have HE := Aside0.mk he
    clear he
    go_enter Try.func63, Try.ntmps63
    go_wp2
    go_ret
    exact ⟨ret_eq HE.out.symm, by rw [HE.out]; exact HR.out, Keep.refl _ _, rfl⟩
set_option maxHeartbeats 1000000 in
theorem below_calls (g b : Nat) (l : List Int) (code m : Int) (w : World) (h : Rdr 122 w g b l code) (hby : By l) (hm0 : -9223372036854775808 ≤ m) (hm1 : m ≤ 9223372036854775807) :
    Calls Try.prog 61 #[.pointer (some ⟨g, 0, none⟩), .int .i64 m] w fun e w' => e = .returned (.int .i64 (below m l code).1) ∧ Rdr 122 w' g b (below m l code).2.1 (below m l code).2.2 ∧ Keep (· = g) w w' ∧ w'.heap.size = w.heap.size := by
  have HN := num_calls g b l code w h hby
  have hr := num_range l code hby
  have hd : below m l code = if (num l code).2.2 = 0 then (if m < 1 ∨ m ≤ (num l code).1 then (0, (num l code).2.1, 2) else num l code) else (0, (num l code).2) := rfl
  rw [hd]
  clear hd
  generalize num l code = r at *
  obtain ⟨n, l', c'⟩ := r
  simp only at hr HN ⊢
  obtain ⟨h0, h1⟩ := hr
  have HN := Aside0.mk HN
  have hlt : n < 2 ^ 64 := by rw [two64]; exact h1
  clear h hby
  by_cases hc : c' = 0
  · subst hc
    have hf2 : failed 2 0 = 2 := rfl
    rw [if_pos rfl]
    by_cases hm : m < 1
    · rw [if_pos (Or.inl hm)]
      go_enter Try.func61, Try.ntmps61
      go_wp2_with (first | (go_at_call 56; refine HN.out.mono ?_; rintro e w1 ⟨rfl, hr1, hk1, hs1⟩; have hc2 := hr1.code.1; have HR1 := Aside0.mk hr1; clear hr1) | (go_at_call 70; refine (fail_calls g b l' 0 2 _ HR1.out).mono ?_; rintro e w2 ⟨rfl, hr2, hk2, hs2⟩; rw [hf2] at hr2; have hc3 := hr2.code.1))
      go_ret
      exact ⟨rfl, hr2, hk1.trans hk2, hs2.trans hs1⟩
    · by_cases hn : m ≤ n
      · rw [if_pos (Or.inr hn)]
        go_enter Try.func61, Try.ntmps61
        go_wp2_with (first | (go_at_call 56; refine HN.out.mono ?_; rintro e w1 ⟨rfl, hr1, hk1, hs1⟩; have hc2 := hr1.code.1; have HR1 := Aside0.mk hr1; clear hr1) | (go_at_call 70; refine (fail_calls g b l' 0 2 _ HR1.out).mono ?_; rintro e w2 ⟨rfl, hr2, hk2, hs2⟩; rw [hf2] at hr2; have hc3 := hr2.code.1))
        go_ret
        exact ⟨rfl, hr2, hk1.trans hk2, hs2.trans hs1⟩
      · rw [if_neg (by omega)]
        go_enter Try.func61, Try.ntmps61
        go_wp2_with (first | (go_at_call 56; refine HN.out.mono ?_; rintro e w1 ⟨rfl, hr1, hk1, hs1⟩; have hc2 := hr1.code.1))
        go_ret
        exact ⟨rfl, hr1, hk1, hs1⟩
  · rw [if_neg hc]
    have hcb : (c' == 0) = false := beq_eq_false_iff_ne.mpr hc
    have hcn : (c' != 0) = true := bne_iff_ne.mpr hc
    clear hc
    go_enter Try.func61, Try.ntmps61
    go_wp2_with (first | (go_at_call 56; refine HN.out.mono ?_; rintro e w1 ⟨rfl, hr1, hk1, hs1⟩; have hc2 := hr1.code.1))
    go_ret
    exact ⟨rfl, hr1, hk1, hs1⟩

set_option maxHeartbeats 1000000 in
theorem bytes_calls (g b : Nat) (l : List Int) (code m : Int) (w : World) (h : Rdr 122 w g b l code) (hlb : b < w.heap.size) (hll : l.length ≤ 140737488355328) :
    Calls Try.prog 62 #[.pointer (some ⟨g, 0, none⟩), .int .i64 m] w fun e w' => ∃ v, e = .returned v ∧ kU8.R 5 w' w.heap.size (fun _ => True) v (takes m l code).1 ∧ Rdr 122 w' g b (takes m l code).2.1 (takes m l code).2.2 ∧ Keep (· = g) w w' := by
  have HR := Aside0.mk h
  obtain ⟨A, c, hc0, hf0, hb, hlc, hA, hC, hne⟩ := h.left
  have hgl := h.lt
  obtain ⟨hc1, -⟩ := h.code
  clear h
  by_cases h0 : code = 0
  · subst h0
    have hd : takes m l 0 = if m < 0 ∨ (l.length : Int) < m then ([], l, 3) else (l.take m.toNat, l.drop m.toNat, 0) := rfl
    by_cases hm : m < 0 ∨ (l.length : Int) < m
    · rw [if_pos hm] at hd
      have HD := Aside0.mk hd
      clear hd
      have hb2 : (m < 0) ∨ (¬ m < 0 ∧ (l.length : Int) < m) := by omega
      clear hm
      have HB := Aside0.mk hb
      have HC := Aside0.mk hC
      have HA := Aside0.mk hA
      clear hb hC hA
      rcases hb2 with hb2 | ⟨hb2, hb3⟩
      all_goals
        go_enter Try.func62, Try.ntmps62
        go_wp2_with (first | (go_at_call 70; refine (fail_calls g b l 0 3 _ HR.out).mono ?_; rintro e w1 ⟨rfl, hr1, hk1, hs1⟩))
        go_ret
        refine ⟨_, rfl, ?_, ?_, hk1⟩
        · rw [HD.out]; exact Kd.R_nil _ _ _ _ _
        · rw [HD.out]; exact hr1
    · rw [if_neg hm] at hd
      have HD := Aside0.mk hd
      clear hd
      have hm0 : 0 ≤ m := by omega
      have hm1 : m ≤ l.length := by omega
      clear hm
      have hd0 : decide (m < 0) = false := by simp; omega
      have hd1 : decide ((l.length : Int) < m) = false := by simp; omega
      obtain ⟨i5, hi5, -, hi5s, -⟩ := info_ex infoU8
      obtain ⟨A', hrun, hC', hblk, hlc'⟩ := sl_from kU8 24 5 .i64 Try.underlying24 hi5 A c l hi5s m hm0 hm1 hlc
      obtain ⟨hrun2, hC2, -⟩ := sl_to kU8 24 5 .i64 Try.underlying24 hi5 A c l m hm0 hm1 hlc
      have hct := hC2 _ hC
      rw [show (l.take m.toNat).length = m.toNat by rw [List.length_take]; omega] at hct
      have HCt := Aside0.mk hct
      clear hct
      have HCd := Aside0.mk (hC' _ hC)
      have HBL := Aside0.mk hblk
      have HB := Aside0.mk hb
      have HC := Aside0.mk hC
      have HA := Aside0.mk hA
      clear hb hC hA hi5 hi5s hC' hC2 hblk
      go_enter Try.func62, Try.ntmps62
      go_wp2_with (first | ((with_reducible refine gate_builtin (b := .append) (xs := #[.tmp 26, .tmp 32]) rfl ?_); at_builtin; refine Kd.R_append_rows (Kd.int .u8) (w0 := w) w.heap.size rfl (.tmp 26) (.tmp 32) 24 5 (.int .u8 0) 1 rfl Try.underlying24 infoU8 rfl (by decide) (by omega) (.slice (some ⟨w.heap.size, 0, none⟩) 0 0) ([] : List Int) (l.take m.toNat) _ _ _ (fun _ => True) (fun _ => False) rfl rfl ?aO ?aR (fun _ _ h => h) (fun _ h => h.elim) ?aF ?aB ?aS ?aL ?_; (case aR => exact Kd.C_alloc HCt.out _); (case aB => exact (Below.refl _ _).alloc (Nat.le_refl _) _); (case aF => exact (fun _ _ => trivial)); (case aO => exact R_lit0 kU8 5 w); (case aS => simp); (case aL => (simp only [List.length_nil]; omega)); (intro v1 w1 ho hb1 hg hat; have hb2 := (hb1.block g hgl).trans HB.out; have hc2 : w1.cell? ⟨g, 0, none⟩ = some (.slice A l.length c) := (by simp [World.cell?, hb2]); have hf2 := blk_frozen hb2 0; have HB2 := Aside0.mk hb2; have HO := Aside0.mk ho; have HW := Aside0.mk hb1; clear ho hb1 hg hat hb2)))
      go_ret
      have hblt : ∀ a, A = some a → w1.heap[a.block]? = w.heap[a.block]? := fun a e => by
        rw [HA.out a e]; exact HW.out.block b hlb
      have hcut := Rdr.cut HB2.out HA.out hne hlc' HBL.out (C_blk HCd.out (fun a e => by
        obtain ⟨a0, e0, e1⟩ := HBL.out a e
        rw [e1]; exact hblt a0 e0))
      rw [List.length_drop] at hcut
      refine ⟨_, rfl, ?_, ?_, (Keep.of_below HW.out).setCell _ _ (fun _ => rfl)⟩
      · rw [HD.out]
        exact R_set_old HO.out hgl _ _
      · rw [HD.out]; exact hcut
  · have hd : takes m l code = ([], l, code) := if_neg h0
    have hcn : (code != 0) = true := bne_iff_ne.mpr h0
    have HD := Aside0.mk hd
    clear hd h0 hb hA hC
    go_enter Try.func62, Try.ntmps62
    go_wp2
    go_ret
    refine ⟨_, rfl, ?_, ?_, Keep.refl _ _⟩
    · rw [HD.out]; exact Kd.R_nil _ _ _ _ _
    · rw [HD.out]; exact HR.out

end Go.Proofs.Ytfcpnjoiloahcaa.Lc
namespace Go.Proofs.Ytfcpnjoiloahcaa.Gc
open Go.RowKit Go.Proofs.YtfcpnjoiloahcaaW.PrintWords Go.Proofs.YtfcpnjoiloahcaaW.PrintLast Go.Proofs.YtfcpnjoiloahcaaW.PrintMore Go.Proofs.Ytfcpnjoiloahcaa.B Go.Proofs.Ytfcpnjoiloahcaa.Ls Go.Proofs.Ytfcpnjoiloahcaa.Gs Go.Proofs.Ytfcpnjoiloahcaa.S Go.Proofs.Ytfcpnjoiloahcaa.R
set_option linter.unusedVariables false
set_option linter.unusedSimpArgs false
set_option maxRecDepth 100000
theorem results_tmp4 {fn : Func} {t u v x : Tmp} (h : fn.results = #[.tmp t, .tmp u, .tmp v, .tmp x]) (tmps : Array Value) (P : Program) (w : World) :
    (results fn tmps).run P w = .ok (.tuple #[tmps.getD t undef, tmps.getD u undef, tmps.getD v undef, tmps.getD x undef]) w := by
  simp [results, h]
theorem cell_of (x : Int) (h0 : 0 ≤ x) (h1 : x < 256) : Extern.Stop.cell (UInt8.ofNat x.toNat) = .int .u8 x := by
  simp only [Extern.Stop.cell, UInt8.toNat_ofNat']
  congr 1
  show ((x.toNat % 2 ^ 8 : Nat) : Int) = x
  omega
/-- Four bytes against four. -/
theorem eq_four (W : World) (xs ys : List Int) (hx : By xs) (hy : By ys) (lx : xs.length = 4) (ly : ys.length = 4) :
    (Op.equalIn 10000 104 (.agg (xs.map (Value.int .u8)).toArray) (.agg (ys.map (Value.int .u8)).toArray)).run Try.prog W = .ok (xs == ys) W := by
  have e : ∀ l : List Int, By l → (l.map fun n => UInt8.ofNat n.toNat).map Extern.Stop.cell = l.map (Value.int .u8) := fun l hl => by
    rw [List.map_map]
    exact List.map_congr_left (fun x hx => cell_of x (hl x hx).1 (hl x hx).2)
  rw [← e xs hx, ← e ys hy]
  have h := run_equalIn_bytes (P := Try.prog) W 9998 104 5 4 Try.underlying104 Try.underlying5 (fun w => by
    obtain ⟨i5, hi5, -, hi5s, -⟩ := info_ex infoU8
    simp [sizeOf, typeInfo, hi5, hi5s]) (xs.map fun n => UInt8.ofNat n.toNat) (ys.map fun n => UInt8.ofNat n.toNat) (by simpa using lx) (by simpa using ly)
  rw [h]
  congr 1
  rw [Bool.eq_iff_iff, beq_iff_eq, beq_iff_eq]
  exact ⟨fun h => str_inj xs ys hx hy (by unfold strOfNums; rw [h]), fun h => by rw [h]⟩
theorem takeL_eq {m k : Int} {r l10 left : List Int} {n cd : Int} (h10 : r.take 10 = l10) (hn : num l10 0 = (n, left, cd)) : takeL (m :: k :: r) =
    if m ≠ 111 then (0, [], 0, 7) else if cd ≠ 0 then (0, [], 0, cd) else if 65536 < n then (0, [], 0, 4) else
    if (r.length : Int) < (l10.length - left.length : Nat) + 4 + n then (0, [], 0, 3) else
    if check k ((r.drop (l10.length - left.length + 4)).take n.toNat) ≠ (r.drop (l10.length - left.length)).take 4 then (0, [], 0, 6) else
    (k, (r.drop (l10.length - left.length + 4)).take n.toNat, 2 + (l10.length - left.length : Nat) + 4 + n, 0) := by
  simp only [takeL, h10, hn]
theorem numGo_left (l0 : List Int) : ∀ (l : List Int) (i : Nat) (n : Int), l.length ≤ l0.length → (numGo l0 l i n).2.1.length ≤ l0.length
  | [], _, _, _ => by simp [numGo]
  | x :: r, i, n, h => by
    rw [List.length_cons] at h
    rw [numGo]
    split
    · exact Nat.le_refl _
    · split
      · show r.length ≤ _; omega
      · exact numGo_left l0 r _ _ (by omega)
theorem num_left (l : List Int) (c : Int) : (num l c).2.1.length ≤ l.length := by
  unfold num
  split
  · exact numGo_left l l 0 0 (Nat.le_refl _)
  · exact Nat.le_refl _
set_option maxHeartbeats 8000000 in
set_option maxRecDepth 100000 in
theorem take_calls (A : Option Addr) (c : Nat) (b : List Int) (w : World) (hC : kU8.C w A b.length b) (hc : b.length ≤ c) (hby : By b) (hl : b.length ≤ 1000000) :
    Calls Try.prog 36 #[.slice A b.length c] w fun e w' => ∃ v, e = .returned (.tuple #[.int .u8 (takeL b).1, v, .int .i64 (takeL b).2.2.1, .int .i64 (takeL b).2.2.2]) ∧ kU8.R 5 w' w.heap.size (fun _ => True) v (takeL b).2.1 ∧ Below w.heap.size w w' := by
  have HC := Aside0.mk hC
  have HBY := Aside0.mk hby
  by_cases hb2 : b.length < 2
  · have ht : takeL b = (0, [], 0, 3) := by
      match b, hb2 with
      | [], _ => rfl
      | [_], _ => rfl
      | _ :: _ :: _, h => simp at h; omega
    have HT := Aside0.mk ht
    clear ht hC hby
    go_enter Try.func36, Try.ntmps36
    go_wp2
    refine bodyPost_ret (results_tmp4 rfl _ _ _) rfl ?_
    rw [HT.out]
    exact ⟨_, rfl, Kd.R_nil _ _ _ _ _, Below.refl _ _⟩
  obtain ⟨m, k, r, hbr⟩ : ∃ m k r, b = m :: k :: r := by
    match b, hb2 with
    | [], h => simp at h
    | [_], h => simp at h
    | m :: k :: r, _ => exact ⟨m, k, r, rfl⟩
  obtain ⟨ad, rfl⟩ := C_some hC (by omega)
  have hrl : b.length = r.length + 2 := by rw [hbr]; rfl
  have q0 : w.cell? (ad.add 0) = some (.int .u8 m) := C_cell hC (by rw [hbr]; rfl)
  have q1 : w.cell? (ad.add 1) = some (.int .u8 k) := C_cell hC (by rw [hbr]; rfl)
  have ea : ad.add 0 = ad := by simp [Addr.add]
  have q0' : w.cell? ad = some (.int .u8 m) := by rw [← ea]; exact q0
  have hmk := hby m (by rw [hbr]; simp)
  have hkk := hby k (by rw [hbr]; simp)
  obtain ⟨l10, h10⟩ : ∃ l, r.take 10 = l := ⟨_, rfl⟩
  obtain ⟨n, left, cd, hn⟩ : ∃ n left cd, num l10 0 = (n, left, cd) := ⟨_, _, _, rfl⟩
  have HT := Aside0.mk (takeL_eq (m := m) (k := k) h10 hn)
  rw [← hbr] at HT
  by_cases hm : m = 111
  case neg =>
    have hmb : (m != 111) = true := bne_iff_ne.mpr hm
    have ht := HT.out
    rw [if_pos hm] at ht
    have HT := Aside0.mk ht
    clear ht hm hC hby hbr h10 hn
    go_enter Try.func36, Try.ntmps36
    go_wp2
    refine bodyPost_ret (results_tmp4 rfl _ _ _) rfl ?_
    rw [HT.out]
    exact ⟨_, rfl, Kd.R_nil _ _ _ _ _, Below.refl _ _⟩
  subst hm
  have ht := HT.out
  rw [if_neg (by simp)] at ht
  have HT := Aside0.mk ht
  clear ht
  have hnl := num_left l10 0
  have hnr := num_range l10 0 (by rw [← h10]; exact (fun x hx => hby x (by rw [hbr]; exact List.mem_cons_of_mem _ (List.mem_cons_of_mem _ (List.mem_of_mem_take hx)))))
  rw [hn] at hnl hnr
  obtain ⟨hn0, hn1⟩ := hnr
  simp only at hnl hn0 hn1
  have hl10 : l10.length = min 10 r.length := by rw [← h10, List.length_take]
  obtain ⟨e, he⟩ : ∃ e, min b.length 12 = e := ⟨_, rfl⟩
  have hel : e = 2 + l10.length := by omega
  have hmin : (if (12 : Int) < (b.length : Int) then 12 else (b.length : Int)) = (e : Int) := by split <;> omega
  obtain ⟨i5, hi5, -, hi5s, -⟩ := info_ex infoU8
  obtain ⟨A1, hrun1, hCm1, -, -⟩ := sl_mid kU8 24 5 .i64 .i64 Try.underlying24 hi5 (some ad) c b hi5s 2 (e : Int) (by decide) (by omega) (by omega) hc
  have hd : (b.take (e : Int).toNat).drop (2 : Int).toNat = l10 := by
    rw [Int.toNat_natCast, show (2 : Int).toNat = 2 from rfl, ← h10, hbr, show e = (e - 2) + 1 + 1 by omega, List.take_succ_cons, List.take_succ_cons]
    show r.take (e - 2) = r.take 10
    rcases Nat.le_total r.length 10 with h | h
    · rw [List.take_of_length_le (by omega), List.take_of_length_le h]
    · rw [show e - 2 = 10 by omega]
  rw [hd] at hrun1 hCm1
  have HC1 := Aside0.mk (hCm1 _ hC)
  have hl10b : l10.length ≤ 10 := by omega
  have HBY10 := Aside0.mk (show By l10 by rw [← h10]; exact fun x hx => hby x (by rw [hbr]; exact List.mem_cons_of_mem _ (List.mem_cons_of_mem _ (List.mem_of_mem_take hx))))
  have HN := Aside0.mk hn
  have hb2' : 2 ≤ b.length := by omega
  have he12 : e ≤ 12 := by omega
  have hle : left.length ≤ e := by omega
  have hmb : ((111 : Int) != 111) = false := by decide
  have HBR := Aside0.mk (And.intro hbr (And.intro hrl (And.intro hel hl10)))
  have HRB := Aside0.mk (show By r from fun x hx => hby x (by rw [hbr]; exact List.mem_cons_of_mem _ (List.mem_cons_of_mem _ hx)))
  clear hd hCm1 hn h10 he hbr hC hby hrl hel hl10
  by_cases hcd : cd = 0
  case neg =>
    have hcb : (cd != 0) = true := bne_iff_ne.mpr hcd
    have ht := HT.out
    rw [if_pos hcd] at ht
    have HT := Aside0.mk ht
    clear ht hcd
    go_enter Try.func36, Try.ntmps36
    go_wp2_with (first
      | (go_at_call 55; refine (Lc.new_calls A1 (c - 2) l10 _ HC1.out (by omega)).mono ?_; rintro e1 w1 ⟨g, b1, rfl, hr1, hb1, hg1, hbb, hbl⟩; have HR1 := Aside0.mk hr1; have HB1 := Aside0.mk hb1; clear hr1 hb1)
      | (go_at_call 56; refine (Lc.num_calls g b1 l10 0 _ HR1.out HBY10.out).mono ?_; rw [HN.out]; rintro e2 w2 ⟨rfl, hr2, hk2, hs2⟩; have HR2 := Aside0.mk hr2; have HK2 := Aside0.mk hk2; clear hr2 hk2)
      | (go_at_call 57; refine (Lc.code_calls g b1 left cd _ HR2.out).mono ?_; rintro e3 w3 ⟨rfl, rfl⟩))
    refine bodyPost_ret (results_tmp4 rfl _ _ _) rfl ?_
    rw [HT.out]
    exact ⟨_, rfl, Kd.R_nil _ _ _ _ _, Keep.below_then HB1.out HK2.out HB1.out.size (fun i hi e => by omega)⟩
  subst hcd
  have hcb : ((0 : Int) != 0) = false := by decide
  have ht := HT.out
  rw [if_neg (by simp)] at ht
  have HT := Aside0.mk ht
  clear ht
  by_cases h64 : 65536 < n
  · have ht := HT.out
    rw [if_pos h64] at ht
    have HT := Aside0.mk ht
    clear ht
    go_enter Try.func36, Try.ntmps36
    go_wp2_with (first
      | (go_at_call 55; refine (Lc.new_calls A1 (c - 2) l10 _ HC1.out (by omega)).mono ?_; rintro e1 w1 ⟨g, b1, rfl, hr1, hb1, hg1, hbb, hbl⟩; have HR1 := Aside0.mk hr1; have HB1 := Aside0.mk hb1; clear hr1 hb1)
      | (go_at_call 56; refine (Lc.num_calls g b1 l10 0 _ HR1.out HBY10.out).mono ?_; rw [HN.out]; rintro e2 w2 ⟨rfl, hr2, hk2, hs2⟩; have HR2 := Aside0.mk hr2; have HK2 := Aside0.mk hk2; clear hr2 hk2)
      | (go_at_call 57; refine (Lc.code_calls g b1 left 0 _ HR2.out).mono ?_; rintro e3 w3 ⟨rfl, rfl⟩))
    refine bodyPost_ret (results_tmp4 rfl _ _ _) rfl ?_
    rw [HT.out]
    exact ⟨_, rfl, Kd.R_nil _ _ _ _ _, Keep.below_then HB1.out HK2.out HB1.out.size (fun i hi e => by omega)⟩
  have ht := HT.out
  rw [if_neg h64] at ht
  have HT := Aside0.mk ht
  clear ht
  obtain ⟨nn, rfl⟩ : ∃ nn : Nat, n = nn := ⟨n.toNat, by omega⟩
  obtain ⟨u, hu⟩ : ∃ u, l10.length - left.length = u := ⟨_, rfl⟩
  rw [hu, Int.toNat_natCast] at HT
  obtain ⟨a, ha⟩ : ∃ a : Nat, a = 2 + u := ⟨_, rfl⟩
  have hea : e = a + left.length := by have := HBR.out; omega
  subst hea
  have hab : a ≤ 12 := by have := HBR.out; omega
  have hlf : left.length ≤ 12 := by omega
  have hnn : nn ≤ 65536 := by omega
  push_cast at hrun1 hmin
  have HA := Aside0.mk (And.intro ha hu)
  clear ha hu
  by_cases hsl : b.length < a + 4 + nn
  · have ht := HT.out
    rw [if_pos (by have h1 := HBR.out; have h2 := HA.out; omega)] at ht
    have HT := Aside0.mk ht
    have hsd : decide ((b.length : Int) < (a : Int) + 4 + (nn : Int)) = true := by simp; omega
    clear hsl hle hn1 hn0 hnl
    clear ht
    go_enter Try.func36, Try.ntmps36
    go_wp2_with (first
      | (go_at_call 55; refine (Lc.new_calls A1 (c - 2) l10 _ HC1.out (by omega)).mono ?_; rintro e1 w1 ⟨g, b1, rfl, hr1, hb1, hg1, hbb, hbl⟩; have HR1 := Aside0.mk hr1; have HB1 := Aside0.mk hb1; clear hr1 hb1)
      | (go_at_call 56; refine (Lc.num_calls g b1 l10 0 _ HR1.out HBY10.out).mono ?_; rw [HN.out]; rintro e2 w2 ⟨rfl, hr2, hk2, hs2⟩; have HR2 := Aside0.mk hr2; have HK2 := Aside0.mk hk2; clear hr2 hk2)
      | (go_at_call 57; refine (Lc.code_calls g b1 left 0 _ HR2.out).mono ?_; rintro e3 w3 ⟨rfl, rfl⟩)
      | (go_at_call 58; refine (Lc.left_calls g b1 left 0 _ HR2.out).mono ?_; rintro e4 w4 ⟨rfl, rfl⟩))
    refine bodyPost_ret (results_tmp4 rfl _ _ _) rfl ?_
    rw [HT.out]
    exact ⟨_, rfl, Kd.R_nil _ _ _ _ _, Keep.below_then HB1.out HK2.out HB1.out.size (fun i hi e => by omega)⟩
  have hbr := HBR.out.1
  have hrl := HBR.out.2.1
  obtain ⟨ha, hu⟩ := HA.out
  have hle2 : a + 4 + nn ≤ b.length := by omega
  obtain ⟨body, hbody⟩ : ∃ body, (r.drop (u + 4)).take nn = body := ⟨_, rfl⟩
  have hbl : body.length = nn := by rw [← hbody, List.length_take, List.length_drop]; omega
  have hbb : (b.take ((a : Int) + 4 + (nn : Int)).toNat).drop ((a : Int) + 4).toNat = body := by
    rw [← hbody, hbr, show ((a : Int) + 4 + (nn : Int)).toNat = (u + 4 + nn) + 1 + 1 by omega, show ((a : Int) + 4).toNat = (u + 4) + 1 + 1 by omega, List.take_succ_cons, List.take_succ_cons, List.drop_succ_cons, List.drop_succ_cons, List.drop_take]
    congr 1
    omega
  obtain ⟨A2, hrun2, hCm2, -, -⟩ := sl_mid kU8 24 5 .i64 .i64 Try.underlying24 hi5 (some ad) c b hi5s ((a : Int) + 4) ((a : Int) + 4 + (nn : Int)) (by omega) (by omega) (by omega) hc
  rw [hbb] at hrun2 hCm2
  have HCB := Aside0.mk (hCm2 _ HC.out)
  obtain ⟨y0, y1, y2, y3, hys⟩ : ∃ y0 y1 y2 y3, (r.drop u).take 4 = [y0, y1, y2, y3] := by
    have h4 : ((r.drop u).take 4).length = 4 := by rw [List.length_take, List.length_drop]; omega
    match (r.drop u).take 4, h4 with
    | [y0, y1, y2, y3], _ => exact ⟨y0, y1, y2, y3, rfl⟩
  have hyb : By [y0, y1, y2, y3] := by rw [← hys]; exact (HRB.out.drop _).take _
  have hb4 : (b.take ((a : Int) + 4).toNat).drop (a : Int).toNat = [y0, y1, y2, y3] := by
    rw [← hys, hbr, show ((a : Int) + 4).toNat = (u + 4) + 1 + 1 by omega, show (a : Int).toNat = u + 1 + 1 by omega, List.take_succ_cons, List.take_succ_cons, List.drop_succ_cons, List.drop_succ_cons, List.drop_take]
    congr 1
    omega
  obtain ⟨A3, hrun3, hCm3, -, -⟩ := sl_mid kU8 24 5 .i64 .i64 Try.underlying24 hi5 (some ad) c b hi5s (a : Int) ((a : Int) + 4) (by omega) (by omega) (by omega) hc
  rw [hb4] at hrun3 hCm3
  simp only [List.length_cons, List.length_nil, Nat.zero_add, Nat.reduceAdd] at hrun3
  have hC3 := hCm3 _ HC.out
  obtain ⟨ad3, rfl⟩ := C_some hC3 (by simp)
  have HC3 := Aside0.mk hC3
  have harr : ∀ (cp : Nat) (W : World), (Instr.arrayAt 104 (.slice (some ad3) 4 cp)).run Try.prog W = .ok (.pointer (some ad3)) W := fun cp W => by
    simp [Instr.arrayAt, run_underlying Try.underlying104]
  have HBYB := Aside0.mk (show By body by rw [← hbody]; exact (HRB.out.drop _).take _)
  have hsd : decide ((b.length : Int) < (a : Int) + 4 + (nn : Int)) = false := by simp; omega
  have ht := HT.out
  rw [if_neg (by omega), hbody, hys] at ht
  have HTT := Aside0.mk ht
  have hbodyb : body.length ≤ 65536 := by omega
  have hq1 : w.cell? ⟨ad.block, ad.off + 1, none⟩ = some (.int .u8 k) := q1
  have HQ := Aside0.mk hq1
  have hq1l : (⟨ad.block, ad.off + 1, none⟩ : Addr).block < w.heap.size := World.block_lt_of_cell? w _ q1
  have q1k : ∀ W, Below w.heap.size w W → W.cell? ⟨ad.block, ad.off + 1, none⟩ = some (.int .u8 k) := fun W hW => (hW.cell (p := ⟨ad.block, ad.off + 1, none⟩) hq1l).trans HQ.out
  have HQK := Aside0.mk q1k
  clear q1 hq1 q1k
  have hEQ := fun W => eq_four W (check k body) [y0, y1, y2, y3] (check_by k body) hyb rfl rfl
  have HE := Aside0.mk (show fourV k body = .agg #[.int .u8 (sumL (k :: body) % 256), .int .u8 (sumL (k :: body) / 256 % 256), .int .u8 (sumL (k :: body) / 65536 % 256), .int .u8 (sumL (k :: body) / 16777216)] from rfl)
  rw [check_eq] at hEQ
  obtain ⟨hkk0, hkk1⟩ := hkk
  have HSZ := Aside0.mk (show 2 + (u : Int) + 4 + (nn : Int) = (a : Int) + 4 + (nn : Int) by omega)
  have HCHK := Aside0.mk (check_eq k body)
  generalize sumL (k :: body) = sn at hEQ HE HCHK
  simp only [List.map_cons, List.map_nil] at hEQ
  clear ht hbr hrl ha hu hle2 hbody hbl hbb hCm2 hys hyb hb4 hCm3 hC3 hi5 hi5s hsl hle hn1 hn0 hnl q0 HT
  obtain ⟨res, hres⟩ : ∃ res, ([sn % 256, sn / 256 % 256, sn / 65536 % 256, sn / 16777216] == [y0, y1, y2, y3]) = res := ⟨_, rfl⟩
  rw [hres] at hEQ
  have HRES := Aside0.mk hres
  clear hres
  have hb1l : (1 : Int) < (b.length : Int) := by omega
  cases res with
  | false =>
    have hne : check k body ≠ [y0, y1, y2, y3] := fun e => by
      rw [HCHK.out] at e
      have := HRES.out
      rw [e] at this
      simp at this
    have ht := HTT.out
    rw [if_pos hne] at ht
    have HT := Aside0.mk ht
    clear ht hne
    go_enter Try.func36, Try.ntmps36
    go_wp2_with (first
      | (go_at_call 55; refine (Lc.new_calls A1 (c - 2) l10 _ HC1.out (by omega)).mono ?_; rintro e1 w1 ⟨g, b1, rfl, hr1, hb1, hg1, hbb, hbl⟩; have HR1 := Aside0.mk hr1; have HB1 := Aside0.mk hb1; clear hr1 hb1)
      | (go_at_call 56; refine (Lc.num_calls g b1 l10 0 _ HR1.out HBY10.out).mono ?_; rw [HN.out]; rintro e2 w2 ⟨rfl, hr2, hk2, hs2⟩; have HR2 := Aside0.mk hr2; have HB2 := Aside0.mk (Keep.below_then HB1.out hk2 HB1.out.size (fun i hi e => by omega)); clear hr2 hk2 hs2)
      | (go_at_call 57; refine (Lc.code_calls g b1 left 0 _ HR2.out).mono ?_; rintro e3 w3 ⟨rfl, rfl⟩)
      | (go_at_call 58; refine (Lc.left_calls g b1 left 0 _ HR2.out).mono ?_; rintro e4 w4 ⟨rfl, rfl⟩)
      | ((with_reducible refine gate_builtin (b := .append) (xs := #[.tmp 50, .tmp 55]) rfl ?_); at_builtin; refine Kd.R_append_rows (Kd.int .u8) (w0 := w2) w2.heap.size rfl (.tmp 50) (.tmp 55) 24 5 (.int .u8 0) 1 rfl Try.underlying24 infoU8 rfl (by decide) (by omega) (.slice (some ⟨w2.heap.size, 0, none⟩) 0 0) ([] : List Int) body _ _ _ (fun _ => True) (fun _ => False) rfl rfl ?aO ?aR (fun _ _ h => h) (fun _ h => h.elim) ?aF ?aB ?aS ?aL ?_; (case aR => exact Kd.C_alloc (Kd.C_below HCB.out HB2.out) _); (case aB => exact (Below.refl _ _).alloc (Nat.le_refl _) _); (case aF => exact (fun _ _ => trivial)); (case aO => exact R_lit0 kU8 5 w2); (case aS => simp); (case aL => (simp only [List.length_nil]; omega)); (intro v5 w5 ho5 hb5 hg hat; rw [List.nil_append] at ho5; obtain ⟨A5, c5, rfl, hlc5, hC5⟩ := Kd.R_reads ho5; have HO5 := Aside0.mk (Kd.R_lower (base' := w.heap.size) ho5 HB2.out.size); have HB5 := Aside0.mk (HB2.out.trans (hb5.mono HB2.out.size)); have HC5 := Aside0.mk hC5; clear ho5 hb5 hg hat hC5)))
    have HCUR := Aside0.mk (Keep.refl (fun _ => False) w5.drew)
    have HW5 := Aside0.mk (show ∀ W, Keep (fun _ => False) w5.drew W → Below w.heap.size w W from fun W hW => HB5.out.drew.trans (hW.below (Nat.le_trans HB5.out.size (Nat.le_refl _)) (fun _ _ h => h)))
    have HARR := Aside0.mk (show ∀ W, Below w.heap.size w W → W.cell? (ad3.add 0) = some (.int .u8 y0) ∧ W.cell? ad3 = some (.int .u8 y0) ∧ W.cell? ⟨ad3.block, ad3.off + 1, none⟩ = some (.int .u8 y1) ∧ W.cell? ⟨ad3.block, ad3.off + 2, none⟩ = some (.int .u8 y2) ∧ W.cell? ⟨ad3.block, ad3.off + 3, none⟩ = some (.int .u8 y3) from fun W hW => by
      have h := Kd.C_below HC3.out hW
      have e0 : ad3.add 0 = ad3 := by simp [Addr.add]
      refine ⟨C_cell h (j := 0) rfl, ?_, C_cell h (j := 1) rfl, C_cell h (j := 2) rfl, C_cell h (j := 3) rfl⟩
      rw [← e0]
      exact C_cell h (j := 0) rfl)
    refine rk_start (fun _ => False) (by kernel_rfl) (n := 13) (l := #[false, false, false, false, false, false, false, false, false, false, false, false, false]) (by kernel_rfl) (by kernel_rfl) ?_
    refine rk_take (fuel := 12) 0 rfl (by kernel_rfl) (listed' := #[true, false, false, false, false, false, false, false, false, false, false, false, false]) (by kernel_rfl) (fun _ _ _ h => h) (by kernel_rfl) (fun w' hR => by go_simp; first | done | with_reducible rfl) rfl ?_
    try simp only [Act.put, List.setIfInBounds_toArray, List.set_cons_zero, List.set_cons_succ]
    refine rk_take (fuel := 11) 1 rfl (by kernel_rfl) (listed' := #[true, true, false, false, false, false, false, false, false, false, false, false, false]) (by kernel_rfl) (fun _ _ _ h => h) (by kernel_rfl) (fun w' hR => by go_simp; first | done | with_reducible rfl) rfl ?_
    try simp only [Act.put, List.setIfInBounds_toArray, List.set_cons_zero, List.set_cons_succ]
    refine rk_take (fuel := 10) 2 rfl (by kernel_rfl) (listed' := #[true, true, true, false, false, false, false, false, false, false, false, false, false]) (by kernel_rfl) (fun _ _ _ h => h) (by kernel_rfl) (fun w' hR => by have x0 := HQK.out w' (HW5.out w' (HCUR.out.trans hR)); go_simp; first | done | with_reducible rfl) rfl ?_
    try simp only [Act.put, List.setIfInBounds_toArray, List.set_cons_zero, List.set_cons_succ]
    refine rk_take (fuel := 9) 3 rfl (by kernel_rfl) (listed' := #[true, true, true, true, false, false, false, false, false, false, false, false, false]) (by kernel_rfl) (fun _ _ _ h => h) (by kernel_rfl) (fun w' hR => by go_simp; first | done | with_reducible rfl) rfl ?_
    try simp only [Act.put, List.setIfInBounds_toArray, List.set_cons_zero, List.set_cons_succ]
    refine rk_take (fuel := 8) 5 rfl (by kernel_rfl) (listed' := #[true, true, true, true, false, true, false, false, false, false, false, false, false]) (by kernel_rfl) (fun _ _ _ h => h) (by kernel_rfl) (fun w' hR => by go_simp; first | done | with_reducible rfl) rfl ?_
    try simp only [Act.put, List.setIfInBounds_toArray, List.set_cons_zero, List.set_cons_succ]
    refine rk_take (fuel := 7) 6 rfl (by kernel_rfl) (listed' := #[true, true, true, true, false, true, true, false, false, false, false, false, false]) (by kernel_rfl) (fun _ _ _ h => h) (by kernel_rfl) (fun w' hR => by go_simp; first | done | with_reducible rfl) rfl ?_
    try simp only [Act.put, List.setIfInBounds_toArray, List.set_cons_zero, List.set_cons_succ]
    refine rk_take (fuel := 6) 7 rfl (by kernel_rfl) (listed' := #[true, true, true, true, false, true, true, true, false, false, false, false, false]) (by kernel_rfl) (fun _ _ _ h => h) (by kernel_rfl) (fun w' hR => by go_simp; first | done | with_reducible rfl) rfl ?_
    try simp only [Act.put, List.setIfInBounds_toArray, List.set_cons_zero, List.set_cons_succ]
    refine rk_take (fuel := 5) 8 rfl (by kernel_rfl) (listed' := #[true, true, true, true, false, true, true, true, true, false, false, false, false]) (by kernel_rfl) (fun _ _ _ h => h) (by kernel_rfl) (fun w' hR => by have y3 := wrI64 ((a : Int) + 4) (by omega) (by omega); go_simp; first | done | with_reducible rfl) rfl ?_
    try simp only [Act.put, List.setIfInBounds_toArray, List.set_cons_zero, List.set_cons_succ]
    refine rk_take (fuel := 4) 9 rfl (by kernel_rfl) (listed' := #[true, true, true, true, false, true, true, true, true, true, false, false, false]) (by kernel_rfl) (fun _ _ _ h => h) (by kernel_rfl) (fun w' hR => by go_simp; first | done | with_reducible rfl) rfl ?_
    try simp only [Act.put, List.setIfInBounds_toArray, List.set_cons_zero, List.set_cons_succ]
    refine rk_take (fuel := 3) 10 rfl (by kernel_rfl) (listed' := #[true, true, true, true, false, true, true, true, true, true, true, false, false]) (by kernel_rfl) (fun _ _ _ h => h) (by kernel_rfl) (fun w' hR => by go_simp; first | done | with_reducible rfl) rfl ?_
    try simp only [Act.put, List.setIfInBounds_toArray, List.set_cons_zero, List.set_cons_succ]
    refine rk_take (fuel := 2) 11 rfl (by kernel_rfl) (listed' := #[true, true, true, true, false, true, true, true, true, true, true, true, false]) (by kernel_rfl) (fun _ _ _ h => h) (by kernel_rfl) (fun w' hR => by obtain ⟨x0, x1, x2, x3, x4⟩ := HARR.out w' (HW5.out w' (HCUR.out.trans hR)); go_simp; first | done | with_reducible rfl) rfl ?_
    try simp only [Act.put, List.setIfInBounds_toArray, List.set_cons_zero, List.set_cons_succ]
    refine rk_step (fuel := 1) 4 rfl (by kernel_rfl) (listed' := #[true, true, true, true, true, true, true, true, true, true, true, true, false]) (by kernel_rfl) (by kernel_rfl) (fun K' hK => ?_)
    go_wp2_with (first | (go_at_call 54; refine (four_calls k hkk0 hkk1 A5 c5 body _ (Kd.C_drew HC5.out) hlc5 HBYB.out).mono ?_; rw [HE.out]; rintro e6 w6 ⟨rfl, hb6⟩; have HB7 := Aside0.mk (show Below w5.heap.size w5 w6 from (Below.refl w5.heap.size w5).drew.trans hb6); have HB6 := Aside0.mk (HB5.out.trans (HB7.out.mono HB5.out.size)); have HK6 := Aside0.mk (Keep.of_below (S := fun _ => False) hb6); clear hb6))
    refine hK.out _ _ HK6.out ?_
    clear hK K'
    try simp only [Act.put, List.setIfInBounds_toArray, List.set_cons_zero, List.set_cons_succ]
    refine rk_take (fuel := 0) 12 rfl (by kernel_rfl) (listed' := #[true, true, true, true, true, true, true, true, true, true, true, true, true]) (by kernel_rfl) (fun _ _ _ h => h) (by kernel_rfl) (fun w' hR => by go_simp; first | done | with_reducible rfl) rfl ?_
    try simp only [Act.put, List.setIfInBounds_toArray, List.set_cons_zero, List.set_cons_succ]
    refine rk_done (by kernel_rfl) ?_
    go_wp2
    refine bodyPost_ret (results_tmp4 rfl _ _ _) rfl ?_
    rw [HT.out]
    exact ⟨_, rfl, Kd.R_nil _ _ _ _ _, HB6.out⟩
  | true =>
    have heq : check k body = [y0, y1, y2, y3] := by
      rw [HCHK.out]
      exact beq_iff_eq.mp HRES.out
    have ht := HTT.out
    rw [if_neg (by rw [heq]; simp)] at ht
    have HT := Aside0.mk ht
    clear ht heq
    go_enter Try.func36, Try.ntmps36
    go_wp2_with (first
      | (go_at_call 55; refine (Lc.new_calls A1 (c - 2) l10 _ HC1.out (by omega)).mono ?_; rintro e1 w1 ⟨g, b1, rfl, hr1, hb1, hg1, hbb, hbl⟩; have HR1 := Aside0.mk hr1; have HB1 := Aside0.mk hb1; clear hr1 hb1)
      | (go_at_call 56; refine (Lc.num_calls g b1 l10 0 _ HR1.out HBY10.out).mono ?_; rw [HN.out]; rintro e2 w2 ⟨rfl, hr2, hk2, hs2⟩; have HR2 := Aside0.mk hr2; have HB2 := Aside0.mk (Keep.below_then HB1.out hk2 HB1.out.size (fun i hi e => by omega)); clear hr2 hk2 hs2)
      | (go_at_call 57; refine (Lc.code_calls g b1 left 0 _ HR2.out).mono ?_; rintro e3 w3 ⟨rfl, rfl⟩)
      | (go_at_call 58; refine (Lc.left_calls g b1 left 0 _ HR2.out).mono ?_; rintro e4 w4 ⟨rfl, rfl⟩)
      | ((with_reducible refine gate_builtin (b := .append) (xs := #[.tmp 50, .tmp 55]) rfl ?_); at_builtin; refine Kd.R_append_rows (Kd.int .u8) (w0 := w2) w2.heap.size rfl (.tmp 50) (.tmp 55) 24 5 (.int .u8 0) 1 rfl Try.underlying24 infoU8 rfl (by decide) (by omega) (.slice (some ⟨w2.heap.size, 0, none⟩) 0 0) ([] : List Int) body _ _ _ (fun _ => True) (fun _ => False) rfl rfl ?aO ?aR (fun _ _ h => h) (fun _ h => h.elim) ?aF ?aB ?aS ?aL ?_; (case aR => exact Kd.C_alloc (Kd.C_below HCB.out HB2.out) _); (case aB => exact (Below.refl _ _).alloc (Nat.le_refl _) _); (case aF => exact (fun _ _ => trivial)); (case aO => exact R_lit0 kU8 5 w2); (case aS => simp); (case aL => (simp only [List.length_nil]; omega)); (intro v5 w5 ho5 hb5 hg hat; rw [List.nil_append] at ho5; obtain ⟨A5, c5, rfl, hlc5, hC5⟩ := Kd.R_reads ho5; have HO5 := Aside0.mk (Kd.R_lower (base' := w.heap.size) ho5 HB2.out.size); have HB5 := Aside0.mk (HB2.out.trans (hb5.mono HB2.out.size)); have HC5 := Aside0.mk hC5; clear ho5 hb5 hg hat hC5)))
    have HCUR := Aside0.mk (Keep.refl (fun _ => False) w5.drew)
    have HW5 := Aside0.mk (show ∀ W, Keep (fun _ => False) w5.drew W → Below w.heap.size w W from fun W hW => HB5.out.drew.trans (hW.below (Nat.le_trans HB5.out.size (Nat.le_refl _)) (fun _ _ h => h)))
    have HARR := Aside0.mk (show ∀ W, Below w.heap.size w W → W.cell? (ad3.add 0) = some (.int .u8 y0) ∧ W.cell? ad3 = some (.int .u8 y0) ∧ W.cell? ⟨ad3.block, ad3.off + 1, none⟩ = some (.int .u8 y1) ∧ W.cell? ⟨ad3.block, ad3.off + 2, none⟩ = some (.int .u8 y2) ∧ W.cell? ⟨ad3.block, ad3.off + 3, none⟩ = some (.int .u8 y3) from fun W hW => by
      have h := Kd.C_below HC3.out hW
      have e0 : ad3.add 0 = ad3 := by simp [Addr.add]
      refine ⟨C_cell h (j := 0) rfl, ?_, C_cell h (j := 1) rfl, C_cell h (j := 2) rfl, C_cell h (j := 3) rfl⟩
      rw [← e0]
      exact C_cell h (j := 0) rfl)
    refine rk_start (fun _ => False) (by kernel_rfl) (n := 13) (l := #[false, false, false, false, false, false, false, false, false, false, false, false, false]) (by kernel_rfl) (by kernel_rfl) ?_
    refine rk_take (fuel := 12) 0 rfl (by kernel_rfl) (listed' := #[true, false, false, false, false, false, false, false, false, false, false, false, false]) (by kernel_rfl) (fun _ _ _ h => h) (by kernel_rfl) (fun w' hR => by go_simp; first | done | with_reducible rfl) rfl ?_
    try simp only [Act.put, List.setIfInBounds_toArray, List.set_cons_zero, List.set_cons_succ]
    refine rk_take (fuel := 11) 1 rfl (by kernel_rfl) (listed' := #[true, true, false, false, false, false, false, false, false, false, false, false, false]) (by kernel_rfl) (fun _ _ _ h => h) (by kernel_rfl) (fun w' hR => by go_simp; first | done | with_reducible rfl) rfl ?_
    try simp only [Act.put, List.setIfInBounds_toArray, List.set_cons_zero, List.set_cons_succ]
    refine rk_take (fuel := 10) 2 rfl (by kernel_rfl) (listed' := #[true, true, true, false, false, false, false, false, false, false, false, false, false]) (by kernel_rfl) (fun _ _ _ h => h) (by kernel_rfl) (fun w' hR => by have x0 := HQK.out w' (HW5.out w' (HCUR.out.trans hR)); go_simp; first | done | with_reducible rfl) rfl ?_
    try simp only [Act.put, List.setIfInBounds_toArray, List.set_cons_zero, List.set_cons_succ]
    refine rk_take (fuel := 9) 3 rfl (by kernel_rfl) (listed' := #[true, true, true, true, false, false, false, false, false, false, false, false, false]) (by kernel_rfl) (fun _ _ _ h => h) (by kernel_rfl) (fun w' hR => by go_simp; first | done | with_reducible rfl) rfl ?_
    try simp only [Act.put, List.setIfInBounds_toArray, List.set_cons_zero, List.set_cons_succ]
    refine rk_take (fuel := 8) 5 rfl (by kernel_rfl) (listed' := #[true, true, true, true, false, true, false, false, false, false, false, false, false]) (by kernel_rfl) (fun _ _ _ h => h) (by kernel_rfl) (fun w' hR => by go_simp; first | done | with_reducible rfl) rfl ?_
    try simp only [Act.put, List.setIfInBounds_toArray, List.set_cons_zero, List.set_cons_succ]
    refine rk_take (fuel := 7) 6 rfl (by kernel_rfl) (listed' := #[true, true, true, true, false, true, true, false, false, false, false, false, false]) (by kernel_rfl) (fun _ _ _ h => h) (by kernel_rfl) (fun w' hR => by go_simp; first | done | with_reducible rfl) rfl ?_
    try simp only [Act.put, List.setIfInBounds_toArray, List.set_cons_zero, List.set_cons_succ]
    refine rk_take (fuel := 6) 7 rfl (by kernel_rfl) (listed' := #[true, true, true, true, false, true, true, true, false, false, false, false, false]) (by kernel_rfl) (fun _ _ _ h => h) (by kernel_rfl) (fun w' hR => by go_simp; first | done | with_reducible rfl) rfl ?_
    try simp only [Act.put, List.setIfInBounds_toArray, List.set_cons_zero, List.set_cons_succ]
    refine rk_take (fuel := 5) 8 rfl (by kernel_rfl) (listed' := #[true, true, true, true, false, true, true, true, true, false, false, false, false]) (by kernel_rfl) (fun _ _ _ h => h) (by kernel_rfl) (fun w' hR => by have y3 := wrI64 ((a : Int) + 4) (by omega) (by omega); go_simp; first | done | with_reducible rfl) rfl ?_
    try simp only [Act.put, List.setIfInBounds_toArray, List.set_cons_zero, List.set_cons_succ]
    refine rk_take (fuel := 4) 9 rfl (by kernel_rfl) (listed' := #[true, true, true, true, false, true, true, true, true, true, false, false, false]) (by kernel_rfl) (fun _ _ _ h => h) (by kernel_rfl) (fun w' hR => by go_simp; first | done | with_reducible rfl) rfl ?_
    try simp only [Act.put, List.setIfInBounds_toArray, List.set_cons_zero, List.set_cons_succ]
    refine rk_take (fuel := 3) 10 rfl (by kernel_rfl) (listed' := #[true, true, true, true, false, true, true, true, true, true, true, false, false]) (by kernel_rfl) (fun _ _ _ h => h) (by kernel_rfl) (fun w' hR => by go_simp; first | done | with_reducible rfl) rfl ?_
    try simp only [Act.put, List.setIfInBounds_toArray, List.set_cons_zero, List.set_cons_succ]
    refine rk_take (fuel := 2) 11 rfl (by kernel_rfl) (listed' := #[true, true, true, true, false, true, true, true, true, true, true, true, false]) (by kernel_rfl) (fun _ _ _ h => h) (by kernel_rfl) (fun w' hR => by obtain ⟨x0, x1, x2, x3, x4⟩ := HARR.out w' (HW5.out w' (HCUR.out.trans hR)); go_simp; first | done | with_reducible rfl) rfl ?_
    try simp only [Act.put, List.setIfInBounds_toArray, List.set_cons_zero, List.set_cons_succ]
    refine rk_step (fuel := 1) 4 rfl (by kernel_rfl) (listed' := #[true, true, true, true, true, true, true, true, true, true, true, true, false]) (by kernel_rfl) (by kernel_rfl) (fun K' hK => ?_)
    go_wp2_with (first | (go_at_call 54; refine (four_calls k hkk0 hkk1 A5 c5 body _ (Kd.C_drew HC5.out) hlc5 HBYB.out).mono ?_; rw [HE.out]; rintro e6 w6 ⟨rfl, hb6⟩; have HB7 := Aside0.mk (show Below w5.heap.size w5 w6 from (Below.refl w5.heap.size w5).drew.trans hb6); have HB6 := Aside0.mk (HB5.out.trans (HB7.out.mono HB5.out.size)); have HK6 := Aside0.mk (Keep.of_below (S := fun _ => False) hb6); clear hb6))
    refine hK.out _ _ HK6.out ?_
    clear hK K'
    try simp only [Act.put, List.setIfInBounds_toArray, List.set_cons_zero, List.set_cons_succ]
    refine rk_take (fuel := 0) 12 rfl (by kernel_rfl) (listed' := #[true, true, true, true, true, true, true, true, true, true, true, true, true]) (by kernel_rfl) (fun _ _ _ h => h) (by kernel_rfl) (fun w' hR => by go_simp; first | done | with_reducible rfl) rfl ?_
    try simp only [Act.put, List.setIfInBounds_toArray, List.set_cons_zero, List.set_cons_succ]
    refine rk_done (by kernel_rfl) ?_
    have q1z := HQK.out _ HB6.out
    go_wp2
    refine bodyPost_ret (results_tmp4 rfl _ _ _) rfl ?_
    rw [HT.out]
    refine ⟨_, ?_, Kd.R_below HO5.out HB7.out, HB6.out⟩
    rw [HSZ.out]
    rfl
end Go.Proofs.Ytfcpnjoiloahcaa.Gc
namespace Go.Proofs.Ytfcpnjoiloahcaa.Gc
open Go.RowKit Go.Proofs.YtfcpnjoiloahcaaW.PrintWords Go.Proofs.YtfcpnjoiloahcaaW.PrintLast Go.Proofs.YtfcpnjoiloahcaaW.PrintMore Go.Proofs.Ytfcpnjoiloahcaa.B Go.Proofs.Ytfcpnjoiloahcaa.Ls Go.Proofs.Ytfcpnjoiloahcaa.Gs Go.Proofs.Ytfcpnjoiloahcaa.S
set_option linter.unusedVariables false
set_option linter.unusedSimpArgs false
theorem C_str {w : World} {A : Option Addr} {n c : Nat} {xs : List Int} (h : kU8.C w A n xs) : (convert 24 9 (.slice A n c)).run Try.prog w = .ok (.string (strOfNums xs)) w :=
  Kd.C_string (P := Try.prog) Try.underlying24 Try.underlying5 Try.underlying9 (c := c) h
/-- The same with the answers spelled. -/
theorem take_n (A : Option Addr) (c : Nat) (b : List Int) (n : Nat) (hn : b.length = n) (k : Int) (body : List Int) (sz er : Int) (ht : takeL b = (k, body, sz, er)) (w : World) (hC : kU8.C w A n b) (hc : n ≤ c) (hby : By b) (hl : n ≤ 1000000) :
    Calls Try.prog 36 #[.slice A n c] w fun e w' => ∃ A2 c2, e = .returned (.tuple #[.int .u8 k, .slice A2 body.length c2, .int .i64 sz, .int .i64 er]) ∧ kU8.R 5 w' w.heap.size (fun _ => True) (.slice A2 body.length c2) body ∧ kU8.C w' A2 body.length body ∧ body.length ≤ c2 ∧ Below w.heap.size w w' := by
  subst hn
  refine (take_calls A c b w hC hc hby hl).mono ?_
  rw [ht]
  rintro e w' ⟨v, rfl, ho, hb⟩
  obtain ⟨A2, c2, rfl, hl2, hC2⟩ := Kd.R_reads ho
  exact ⟨A2, c2, rfl, ho, hC2, hl2, hb⟩
theorem lay_n (k : Int) (hk0 : 0 ≤ k) (hk1 : k < 256) (A : Option Addr) (c : Nat) (b : List Int) (m : Nat) (hm : b.length = m) (fl : List Int) (n : Nat) (hf : layL k b = fl) (hn : fl.length = n) (w : World) (hC : kU8.C w A m b) (hc : m ≤ c) (hby : By b) (hl : m ≤ 65536) :
    Calls Try.prog 35 #[.int .u8 k, .slice A m c] w fun e w' => ∃ A2 c2, e = .returned (.tuple #[.slice A2 n c2, .int .i64 0]) ∧ kU8.R 5 w' w.heap.size (fun _ => True) (.slice A2 n c2) fl ∧ kU8.C w' A2 n fl ∧ n ≤ c2 ∧ Below w.heap.size w w' := by
  subst hm
  subst hf
  subst hn
  refine (lay_calls k hk0 hk1 A c b w hC hc hby hl).mono ?_
  rintro e w' ⟨v, rfl, ho, hb⟩
  obtain ⟨A2, c2, rfl, hl2, hC2⟩ := Kd.R_reads ho
  exact ⟨A2, c2, rfl, ho, hC2, hl2, hb⟩
theorem rlay_n (k : Int) (hk0 : 0 ≤ k) (hk1 : k < 256) (A : Option Addr) (c : Nat) (b : List Int) (m : Nat) (hm : b.length = m) (fl : List Int) (n : Nat) (hf : layL k b = fl) (hn : fl.length = n) (w : World) (hC : kU8.C w A m b) (hby : By b) (hl : m ≤ 1000000) :
    Calls Try.prog 11 #[.int .u8 k, .slice A m c] w fun e w' => ∃ A2 c2, e = .returned (.slice A2 n c2) ∧ kU8.R 5 w' w.heap.size (fun _ => True) (.slice A2 n c2) fl ∧ kU8.C w' A2 n fl ∧ n ≤ c2 ∧ Below w.heap.size w w' := by
  subst hm
  subst hf
  subst hn
  refine (rlay_calls k hk0 hk1 A c b w hC hby hl).mono ?_
  rintro e w' ⟨v, rfl, ho, hb⟩
  obtain ⟨A2, c2, rfl, hl2, hC2⟩ := Kd.R_reads ho
  exact ⟨A2, c2, rfl, ho, hC2, hl2, hb⟩
set_option maxHeartbeats 4000000 in
set_option maxRecDepth 100000 in
theorem awake_calls (w : World) : Calls Try.prog 10 #[] w fun e w' => e = .returned (.bool true) ∧ Below w.heap.size w w' := by
  have hq1 : ((strOfNums [111, 1, 1]).toList == [111, 1, 1]) = true := by decide +kernel
  have hq2 : ((strOfNums [97]).toList == [97]) = true := by decide +kernel
  have hb1 : By [97] := by intro x hx; simp at hx; omega
  obtain ⟨fl, hfl⟩ : ∃ fl, layL 1 [97] = fl := ⟨_, rfl⟩
  have h8 : fl.length = 8 := by rw [← hfl, lay_len, show [(97 : Int)].length = 1 from rfl, putl_lt (by decide)]; rfl
  have ht : takeL fl = (1, [97], 8, 0) := by
    have h := take_lay (k := 1) (b := [97]) (rest := []) (by decide)
    rw [List.append_nil, hfl, h8] at h
    exact h
  have h3 : fl.take 3 = [111, 1, 1] := by rw [← hfl, layL, show [(97 : Int)].length = 1 from rfl, putl_lt (by decide)]; rfl
  have hfb : By fl := by rw [← hfl]; exact lay_by (by decide) hb1
  have HFL := Aside0.mk hfl
  have H8 := Aside0.mk h8
  have HT := Aside0.mk ht
  have H3 := Aside0.mk h3
  have HFB := Aside0.mk hfb
  have hcv := Lib.run_convert_bytes_const (P := Try.prog) w 24 5 #[.int .u8 97] 1 1 Try.underlying24 Try.underlying5
  obtain ⟨i5, hi5, -, hi5s, -⟩ := info_ex infoU8
  clear hfl h8 ht h3 hfb hi5s
  go_enter Try.func10, Try.ntmps10
  go_wp2_with (first
    | (go_at_call 35; refine (lay_n 1 (by decide) (by decide) (some ⟨w.heap.size, 0, none⟩) 1 [97] 1 rfl fl 8 HFL.out H8.out _ (C_litM .u8 5 w [97] (1, 2) (by decide)) (by decide) hb1 (by decide)).mono ?_; rintro e w1 ⟨A1, c1, rfl, -, hC1, hc1, hb⟩; have HC1 := Aside0.mk hC1; have HB1 := Aside0.mk (((Below.refl w.heap.size w).alloc (Nat.le_refl _) (.cells #[.int .u8 97] 5 (1, 2))).trans (hb.mono (by simp))); clear hC1 hb)
    | (go_at_call 36; refine (take_n A1 c1 fl 8 H8.out 1 [97] 8 0 HT.out _ HC1.out hc1 HFB.out (by decide)).mono ?_; rintro e w2 ⟨A2, c2, rfl, -, hC2, -, hb⟩; have HB2 := Aside0.mk (HB1.out.trans (hb.mono HB1.out.size)); have hrun : ∀ W : World, (Instr.slice 24 (.slice A1 8 c1) none (some (.int .i64 3)) none).run Try.prog W = .ok (.slice A1 3 c1) W := (fun W => cut_to (P := Try.prog) 24 5 .i64 Try.underlying24 hi5 A1 8 c1 3 (by decide) (by decide) hc1 W); have hs1 := C_str (n := 1) (c := c2) hC2; have hC3 : kU8.C w2 A1 3 [111, 1, 1] := (by rw [← H3.out]; have h0 := HC1.out; rw [← H8.out] at h0; have h := Kd.C_take (m := 3) (Kd.C_below h0 hb) (by rw [H8.out]; decide); rwa [show (fl.take 3).length = 3 by rw [H3.out]; rfl] at h); have hs2 := C_str (c := c1) hC3; clear hC2 hb hC3))
  go_ret
  exact ⟨rfl, HB2.out⟩
end Go.Proofs.Ytfcpnjoiloahcaa.Gc
namespace Go.Proofs.Ytfcpnjoiloahcaa.Go1
open Go.RowKit Go.Proofs.YtfcpnjoiloahcaaW.PrintWords Go.Proofs.YtfcpnjoiloahcaaW.PrintLast Go.Proofs.YtfcpnjoiloahcaaW.PrintMore Go.Proofs.Ytfcpnjoiloahcaa.B Go.Proofs.Ytfcpnjoiloahcaa.O
set_option linter.unusedVariables false
set_option linter.unusedSimpArgs false
/-- A frame: its kind, its bytes. -/
abbrev kF : Kd (Int × List Int) := Kd.pair (Kd.int .u8) (Kd.slice 5 kU8)
def FrOk (p : Int × List Int) : Prop := (0 ≤ p.1 ∧ p.1 < 256) ∧ By p.2
theorem opens_u8s : Opens Try.prog 24 (Kd.slice 5 kU8) (fun l => (∀ v ∈ l, (Lit.int .u8 v).wf = true) ∧ l.length ≤ 9223372036854775807) := opens_slice Try.underlying24 (by kernel_rfl) (opens_int Try.underlying5)
theorem opens_frame : Opens Try.prog 27 kF FrOk :=
  opens_mono (opens_struct Try.underlying27 (by kernel_rfl) (opens_cons rfl (by kernel_rfl) (opens_int Try.underlying5) (opens_last rfl (by kernel_rfl) opens_u8s))) (fun p h => ⟨wf_u8 h.1, fun x hx => wf_u8 (h.2.1 x hx)⟩)
theorem opens_frames : Opens Try.prog 22 (Kd.slice 27 kF) (fun l => (∀ v ∈ l, FrOk v) ∧ l.length ≤ 9223372036854775807) := opens_slice Try.underlying22 (by kernel_rfl) opens_frame
theorem frame_K {w : World} {k : Int} {b : List Int} {cs : List Value} (h : kF.K w (k, b) cs) : ∃ (A : Option Addr) (c : Nat), cs = [.int .u8 k, .slice A b.length c] ∧ b.length ≤ c ∧ kU8.C w A b.length b := by
  obtain ⟨c0, c1, rfl, h0, A, c, hA, h1, h2⟩ := h
  have e0 : c0 = [.int .u8 k] := h0
  subst e0 hA
  exact ⟨A, c, rfl, h1, h2⟩
end Go.Proofs.Ytfcpnjoiloahcaa.Go1
namespace Go.Proofs.Ytfcpnjoiloahcaa.Gc
open Go.RowKit Go.Proofs.YtfcpnjoiloahcaaW.PrintWords Go.Proofs.YtfcpnjoiloahcaaW.PrintLast Go.Proofs.YtfcpnjoiloahcaaW.PrintMore Go.Proofs.Ytfcpnjoiloahcaa.B Go.Proofs.Ytfcpnjoiloahcaa.Ls Go.Proofs.Ytfcpnjoiloahcaa.Gs Go.Proofs.Ytfcpnjoiloahcaa.S Go.Proofs.Ytfcpnjoiloahcaa.R
set_option linter.unusedVariables false
set_option linter.unusedSimpArgs false
set_option maxHeartbeats 8000000 in
set_option maxRecDepth 100000 in
theorem rtake_calls (A : Option Addr) (c : Nat) (b : List Int) (w : World) (hC : kU8.C w A b.length b) (hc : b.length ≤ c) (hby : By b) (hl : b.length ≤ 1000000) :
    Calls Try.prog 38 #[.slice A b.length c] w fun e w' => ∃ A2 c2, e = .returned (.tuple #[.int .u8 (takeL b).1, .slice A2 (takeL b).2.1.length c2, .int .i64 (takeL b).2.2.1, .int .i64 (takeL b).2.2.2]) ∧ (takeL b).2.1.length ≤ c2 ∧ ((∀ W, kU8.C W A b.length b → kU8.C W A2 (takeL b).2.1.length (takeL b).2.1) ∧ ∀ a, A2 = some a → ∃ a0, A = some a0 ∧ a.block = a0.block) ∧ Below w.heap.size w w' := by
  have HC := Aside0.mk hC
  have HBY := Aside0.mk hby
  by_cases hb2 : b.length < 2
  · have ht : takeL b = (0, [], 0, 3) := by
      match b, hb2 with
      | [], _ => rfl
      | [_], _ => rfl
      | _ :: _ :: _, h => simp at h; omega
    have HT := Aside0.mk ht
    clear ht hC hby
    go_enter Try.func38, Try.ntmps38
    go_wp2
    refine bodyPost_ret (results_tmp4 rfl _ _ _) rfl ?_
    rw [HT.out]
    exact ⟨none, 0, rfl, Nat.le_refl _, ⟨fun W _ => Kd.C_nil _ _, fun a ha => (by cases ha)⟩, Below.refl _ _⟩
  obtain ⟨m, k, r, hbr⟩ : ∃ m k r, b = m :: k :: r := by
    match b, hb2 with
    | [], h => simp at h
    | [_], h => simp at h
    | m :: k :: r, _ => exact ⟨m, k, r, rfl⟩
  obtain ⟨ad, rfl⟩ := C_some hC (by omega)
  have hrl : b.length = r.length + 2 := by rw [hbr]; rfl
  have q0 : w.cell? (ad.add 0) = some (.int .u8 m) := C_cell hC (by rw [hbr]; rfl)
  have q1 : w.cell? (ad.add 1) = some (.int .u8 k) := C_cell hC (by rw [hbr]; rfl)
  have ea : ad.add 0 = ad := by simp [Addr.add]
  have q0' : w.cell? ad = some (.int .u8 m) := by rw [← ea]; exact q0
  have hmk := hby m (by rw [hbr]; simp)
  have hkk := hby k (by rw [hbr]; simp)
  obtain ⟨l10, h10⟩ : ∃ l, r.take 10 = l := ⟨_, rfl⟩
  obtain ⟨n, left, cd, hn⟩ : ∃ n left cd, num l10 0 = (n, left, cd) := ⟨_, _, _, rfl⟩
  have HT := Aside0.mk (takeL_eq (m := m) (k := k) h10 hn)
  rw [← hbr] at HT
  by_cases hm : m = 111
  case neg =>
    have hmb : (m != 111) = true := bne_iff_ne.mpr hm
    have ht := HT.out
    rw [if_pos hm] at ht
    have HT := Aside0.mk ht
    clear ht hm hC hby hbr h10 hn
    go_enter Try.func38, Try.ntmps38
    go_wp2
    refine bodyPost_ret (results_tmp4 rfl _ _ _) rfl ?_
    rw [HT.out]
    exact ⟨none, 0, rfl, Nat.le_refl _, ⟨fun W _ => Kd.C_nil _ _, fun a ha => (by cases ha)⟩, Below.refl _ _⟩
  subst hm
  have ht := HT.out
  rw [if_neg (by simp)] at ht
  have HT := Aside0.mk ht
  clear ht
  have hnl := num_left l10 0
  have hnr := num_range l10 0 (by rw [← h10]; exact (fun x hx => hby x (by rw [hbr]; exact List.mem_cons_of_mem _ (List.mem_cons_of_mem _ (List.mem_of_mem_take hx)))))
  rw [hn] at hnl hnr
  obtain ⟨hn0, hn1⟩ := hnr
  simp only at hnl hn0 hn1
  have hl10 : l10.length = min 10 r.length := by rw [← h10, List.length_take]
  obtain ⟨e, he⟩ : ∃ e, min b.length 12 = e := ⟨_, rfl⟩
  have hel : e = 2 + l10.length := by omega
  have HE := Aside0.mk he
  obtain ⟨i5, hi5, -, hi5s, -⟩ := info_ex infoU8
  obtain ⟨A1, hrun1, hCm1, hA1, hcp1⟩ := sl_mid kU8 24 5 .i64 .i64 Try.underlying24 hi5 (some ad) c b hi5s 2 (e : Int) (by decide) (by omega) (by omega) hc
  have hd : (b.take (e : Int).toNat).drop (2 : Int).toNat = l10 := by
    rw [Int.toNat_natCast, show (2 : Int).toNat = 2 from rfl, ← h10, hbr, show e = (e - 2) + 1 + 1 by omega, List.take_succ_cons, List.take_succ_cons]
    show r.take (e - 2) = r.take 10
    rcases Nat.le_total r.length 10 with h | h
    · rw [List.take_of_length_le (by omega), List.take_of_length_le h]
    · rw [show e - 2 = 10 by omega]
  rw [hd] at hrun1 hCm1 hcp1
  have HC1 := Aside0.mk (hCm1 _ hC)
  have hl10b : l10.length ≤ 10 := by omega
  have HBY10 := Aside0.mk (show By l10 by rw [← h10]; exact fun x hx => hby x (by rw [hbr]; exact List.mem_cons_of_mem _ (List.mem_cons_of_mem _ (List.mem_of_mem_take hx))))
  have HN := Aside0.mk hn
  have hb2' : 2 ≤ b.length := by omega
  have he12 : e ≤ 12 := by omega
  have hle : left.length ≤ e := by omega
  have hmb : ((111 : Int) != 111) = false := by decide
  have HBR := Aside0.mk (And.intro hbr (And.intro hrl (And.intro hel hl10)))
  have HRB := Aside0.mk (show By r from fun x hx => hby x (by rw [hbr]; exact List.mem_cons_of_mem _ (List.mem_cons_of_mem _ hx)))
  clear hd hCm1 hn h10 he hbr hC hby hrl hel hl10
  have hadl : ad.block < w.heap.size := World.block_lt_of_cell? w _ q0'
  obtain ⟨W, hW⟩ : ∃ W, W = w.alloc (.cells #[.slice A1 l10.length (c - 2), .int .i64 0] 95) := ⟨_, rfl⟩
  have HR1 := Aside0.mk (show Rdr 95 W w.heap.size ad.block l10 0 from ⟨A1, c - 2, by rw [hW]; exact heap_alloc_new _ _, by simpa using hcp1, fun a e => by
    obtain ⟨a0, h1, h2⟩ := hA1 a e
    injection h1 with h1
    rw [h2, h1], by rw [hW]; exact Kd.C_alloc HC1.out _, by omega⟩)
  have HBW := Aside0.mk (show Below w.heap.size w W by rw [hW]; exact (Below.refl _ _).alloc (Nat.le_refl _) _)
  clear hA1 hcp1 hmk
  go_enter Try.func38, Try.ntmps38
  go_upto_if 21 with fail
  go_cut [6] (fun s6 wx => s6 = .int .i64 (e : Int) ∧ w = wx)
  case first =>
    by_cases h12 : 12 < b.length
    · have h12' : decide ((12 : Int) < (b.length : Int)) = true := by simp; omega
      have he : (12 : Int) = (e : Int) := by have := HE.out; omega
      go_wp2
      go_meet
      exact ⟨by rw [← he], rfl⟩
    · have h12' : decide ((12 : Int) < (b.length : Int)) = false := by simp; omega
      have he : b.length = e := by have := HE.out; omega
      go_wp2
      go_meet
      exact ⟨by rw [← he], rfl⟩
  case rest =>
  obtain ⟨rfl, rfl⟩ := hcut
  clear HE
  by_cases hcd : cd = 0
  case neg =>
    have hcb : (cd != 0) = true := bne_iff_ne.mpr hcd
    have ht := HT.out
    rw [if_pos hcd] at ht
    have HT := Aside0.mk ht
    clear ht hcd
    go_wp2_with (first | (go_at_call 60; rw [← hW]; refine (Lr.num_calls w.heap.size ad.block l10 0 _ HR1.out HBY10.out).mono ?_; rw [HN.out]; rintro e2 w2 ⟨rfl, hr2, hk2, hs2⟩; obtain ⟨q2, -⟩ := hr2.code; obtain ⟨A4, c4, q4, -, -, -, -, -, -⟩ := hr2.left; have HR2 := Aside0.mk hr2; have HB2 := Aside0.mk (Keep.below_then HBW.out hk2 HBW.out.size (fun i hi e => by omega)); clear hr2 hk2 hs2))
    have HCUR := Aside0.mk (Keep.refl (fun _ => False) w2.drew)
    have HQ2 := Aside0.mk (show ∀ W, Keep (fun _ => False) w2.drew W → W.cell? ⟨w.heap.size, 1, none⟩ = some (.int .i64 cd) from fun W hW => (by
      have h2 : W.heap[w.heap.size]? = w2.heap[w.heap.size]? := hW.block _ (World.block_lt_of_cell? w2 _ q2) (fun h => h)
      simpa [World.cell?, h2] using q2))
    clear q4
    refine rk_start (fun _ => False) (by kernel_rfl) (n := 8) (l := #[false, false, false, false, false, false, false, false]) (by kernel_rfl) (by kernel_rfl) ?_
    refine rk_take (fuel := 7) 0 rfl (by kernel_rfl) (listed' := #[true, false, false, false, false, false, false, false]) (by kernel_rfl) (fun _ _ _ h => h) (by kernel_rfl) (fun w' hR => by go_simp; first | done | with_reducible rfl) rfl ?_
    try simp only [Act.put, List.setIfInBounds_toArray, List.set_cons_zero, List.set_cons_succ]
    refine rk_take (fuel := 6) 1 rfl (by kernel_rfl) (listed' := #[true, true, false, false, false, false, false, false]) (by kernel_rfl) (fun _ _ _ h => h) (by kernel_rfl) (fun w' hR => by go_simp; first | done | with_reducible rfl) rfl ?_
    try simp only [Act.put, List.setIfInBounds_toArray, List.set_cons_zero, List.set_cons_succ]
    refine rk_take (fuel := 5) 2 rfl (by kernel_rfl) (listed' := #[true, true, true, false, false, false, false, false]) (by kernel_rfl) (fun _ _ _ h => h) (by kernel_rfl) (fun w' hR => by go_simp; first | done | with_reducible rfl) rfl ?_
    try simp only [Act.put, List.setIfInBounds_toArray, List.set_cons_zero, List.set_cons_succ]
    refine rk_take (fuel := 4) 3 rfl (by kernel_rfl) (listed' := #[true, true, true, true, false, false, false, false]) (by kernel_rfl) (fun _ _ _ h => h) (by kernel_rfl) (fun w' hR => by have x0 := HQ2.out w' (HCUR.out.trans hR); go_simp; first | done | with_reducible rfl) rfl ?_
    try simp only [Act.put, List.setIfInBounds_toArray, List.set_cons_zero, List.set_cons_succ]
    refine rk_take (fuel := 3) 4 rfl (by kernel_rfl) (listed' := #[true, true, true, true, true, false, false, false]) (by kernel_rfl) (fun _ _ _ h => h) (by kernel_rfl) (fun w' hR => by go_simp; first | done | with_reducible rfl) rfl ?_
    try simp only [Act.put, List.setIfInBounds_toArray, List.set_cons_zero, List.set_cons_succ]
    refine rk_take (fuel := 2) 5 rfl (by kernel_rfl) (listed' := #[true, true, true, true, true, true, false, false]) (by kernel_rfl) (fun _ _ _ h => h) (by kernel_rfl) (fun w' hR => by go_simp; first | done | with_reducible rfl) rfl ?_
    try simp only [Act.put, List.setIfInBounds_toArray, List.set_cons_zero, List.set_cons_succ]
    refine rk_take (fuel := 1) 6 rfl (by kernel_rfl) (listed' := #[true, true, true, true, true, true, true, false]) (by kernel_rfl) (fun _ _ _ h => h) (by kernel_rfl) (fun w' hR => by go_simp; first | done | with_reducible rfl) rfl ?_
    try simp only [Act.put, List.setIfInBounds_toArray, List.set_cons_zero, List.set_cons_succ]
    refine rk_take (fuel := 0) 7 rfl (by kernel_rfl) (listed' := #[true, true, true, true, true, true, true, true]) (by kernel_rfl) (fun _ _ _ h => h) (by kernel_rfl) (fun w' hR => by go_simp; first | done | with_reducible rfl) rfl ?_
    try simp only [Act.put, List.setIfInBounds_toArray, List.set_cons_zero, List.set_cons_succ]
    refine rk_done (by kernel_rfl) ?_
    go_wp2
    refine bodyPost_ret (results_tmp4 rfl _ _ _) rfl ?_
    rw [HT.out]
    exact ⟨none, 0, rfl, Nat.le_refl _, ⟨fun W _ => Kd.C_nil _ _, fun a ha => (by cases ha)⟩, HB2.out.drew⟩
  subst hcd
  have hcb : ((0 : Int) != 0) = false := by decide
  have ht := HT.out
  rw [if_neg (by simp)] at ht
  have HT := Aside0.mk ht
  clear ht
  by_cases h64 : 65536 < n
  · have ht := HT.out
    rw [if_pos h64] at ht
    have HT := Aside0.mk ht
    clear ht
    go_wp2_with (first | (go_at_call 60; rw [← hW]; refine (Lr.num_calls w.heap.size ad.block l10 0 _ HR1.out HBY10.out).mono ?_; rw [HN.out]; rintro e2 w2 ⟨rfl, hr2, hk2, hs2⟩; obtain ⟨q2, -⟩ := hr2.code; obtain ⟨A4, c4, q4, -, -, -, -, -, -⟩ := hr2.left; have HR2 := Aside0.mk hr2; have HB2 := Aside0.mk (Keep.below_then HBW.out hk2 HBW.out.size (fun i hi e => by omega)); clear hr2 hk2 hs2))
    refine bodyPost_ret (results_tmp4 rfl _ _ _) rfl ?_
    rw [HT.out]
    exact ⟨none, 0, rfl, Nat.le_refl _, ⟨fun W _ => Kd.C_nil _ _, fun a ha => (by cases ha)⟩, HB2.out⟩
  have ht := HT.out
  rw [if_neg h64] at ht
  have HT := Aside0.mk ht
  clear ht
  obtain ⟨nn, rfl⟩ : ∃ nn : Nat, n = nn := ⟨n.toNat, by omega⟩
  obtain ⟨u, hu⟩ : ∃ u, l10.length - left.length = u := ⟨_, rfl⟩
  rw [hu, Int.toNat_natCast] at HT
  obtain ⟨a, ha⟩ : ∃ a : Nat, a = 2 + u := ⟨_, rfl⟩
  have hea : e = a + left.length := by have := HBR.out; omega
  subst hea
  have hab : a ≤ 12 := by have := HBR.out; omega
  have hlf : left.length ≤ 12 := by omega
  have hnn : nn ≤ 65536 := by omega
  have hat : (a : Int) + (left.length : Int) - (left.length : Int) = (a : Int) := by omega
  have HA := Aside0.mk (And.intro ha hu)
  push_cast at hrun1
  clear ha hu
  by_cases hsl : b.length < a + 4 + nn
  · have ht := HT.out
    rw [if_pos (by have h1 := HBR.out; have h2 := HA.out; omega)] at ht
    have HT := Aside0.mk ht
    have hsd : decide ((b.length : Int) < (a : Int) + 4 + (nn : Int)) = true := by simp; omega
    clear hsl hle hn1 hn0 hnl
    clear ht
    go_wp2_with (first | (go_at_call 60; rw [← hW]; refine (Lr.num_calls w.heap.size ad.block l10 0 _ HR1.out HBY10.out).mono ?_; rw [HN.out]; rintro e2 w2 ⟨rfl, hr2, hk2, hs2⟩; obtain ⟨q2, -⟩ := hr2.code; obtain ⟨A4, c4, q4, -, -, -, -, -, -⟩ := hr2.left; have HR2 := Aside0.mk hr2; have HB2 := Aside0.mk (Keep.below_then HBW.out hk2 HBW.out.size (fun i hi e => by omega)); clear hr2 hk2 hs2))
    refine bodyPost_ret (results_tmp4 rfl _ _ _) rfl ?_
    rw [HT.out]
    exact ⟨none, 0, rfl, Nat.le_refl _, ⟨fun W _ => Kd.C_nil _ _, fun a ha => (by cases ha)⟩, HB2.out⟩
  have hbr := HBR.out.1
  have hrl := HBR.out.2.1
  obtain ⟨ha, hu⟩ := HA.out
  have hle2 : a + 4 + nn ≤ b.length := by omega
  obtain ⟨body, hbody⟩ : ∃ body, (r.drop (u + 4)).take nn = body := ⟨_, rfl⟩
  have hbl : body.length = nn := by rw [← hbody, List.length_take, List.length_drop]; omega
  have hbb : (b.take ((a : Int) + 4 + (nn : Int)).toNat).drop ((a : Int) + 4).toNat = body := by
    rw [← hbody, hbr, show ((a : Int) + 4 + (nn : Int)).toNat = (u + 4 + nn) + 1 + 1 by omega, show ((a : Int) + 4).toNat = (u + 4) + 1 + 1 by omega, List.take_succ_cons, List.take_succ_cons, List.drop_succ_cons, List.drop_succ_cons, List.drop_take]
    congr 1
    omega
  obtain ⟨A2, hrun2, hCm2, hAm2, -⟩ := sl_mid kU8 24 5 .i64 .i64 Try.underlying24 hi5 (some ad) c b hi5s ((a : Int) + 4) ((a : Int) + 4 + (nn : Int)) (by omega) (by omega) (by omega) hc
  rw [hbb] at hrun2 hCm2
  have HCB := Aside0.mk (hCm2 _ HC.out)
  obtain ⟨y0, y1, y2, y3, hys⟩ : ∃ y0 y1 y2 y3, (r.drop u).take 4 = [y0, y1, y2, y3] := by
    have h4 : ((r.drop u).take 4).length = 4 := by rw [List.length_take, List.length_drop]; omega
    match (r.drop u).take 4, h4 with
    | [y0, y1, y2, y3], _ => exact ⟨y0, y1, y2, y3, rfl⟩
  have hyb : By [y0, y1, y2, y3] := by rw [← hys]; exact (HRB.out.drop _).take _
  have hb4 : (b.take ((a : Int) + 4).toNat).drop (a : Int).toNat = [y0, y1, y2, y3] := by
    rw [← hys, hbr, show ((a : Int) + 4).toNat = (u + 4) + 1 + 1 by omega, show (a : Int).toNat = u + 1 + 1 by omega, List.take_succ_cons, List.take_succ_cons, List.drop_succ_cons, List.drop_succ_cons, List.drop_take]
    congr 1
    omega
  obtain ⟨A3, hrun3, hCm3, -, -⟩ := sl_mid kU8 24 5 .i64 .i64 Try.underlying24 hi5 (some ad) c b hi5s (a : Int) ((a : Int) + 4) (by omega) (by omega) (by omega) hc
  rw [hb4] at hrun3 hCm3
  simp only [List.length_cons, List.length_nil, Nat.zero_add, Nat.reduceAdd] at hrun3
  have hC3 := hCm3 _ HC.out
  obtain ⟨ad3, rfl⟩ := C_some hC3 (by simp)
  have HC3 := Aside0.mk (show kU8.C w (some ad3) 4 [y0, y1, y2, y3] from hC3)
  have HBYB := Aside0.mk (show By body by rw [← hbody]; exact (HRB.out.drop _).take _)
  have hsd : decide ((b.length : Int) < (a : Int) + 4 + (nn : Int)) = false := by simp; omega
  have ht := HT.out
  rw [if_neg (by omega), hbody, hys] at ht
  have HTT := Aside0.mk ht
  have hbodyb : body.length ≤ 65536 := by omega
  have hq1 : w.cell? ⟨ad.block, ad.off + 1, none⟩ = some (.int .u8 k) := q1
  have HQ := Aside0.mk hq1
  have hq1l : (⟨ad.block, ad.off + 1, none⟩ : Addr).block < w.heap.size := World.block_lt_of_cell? w _ q1
  have q1k : ∀ W, Below w.heap.size w W → W.cell? ⟨ad.block, ad.off + 1, none⟩ = some (.int .u8 k) := fun W hW => (hW.cell (p := ⟨ad.block, ad.off + 1, none⟩) hq1l).trans HQ.out
  have HQK := Aside0.mk q1k
  clear q1 hq1 q1k
  obtain ⟨res, hres⟩ : ∃ res, (check k body == [y0, y1, y2, y3]) = res := ⟨_, rfl⟩
  have hst : ((strOfNums (check k body)).toList == (strOfNums [y0, y1, y2, y3]).toList) = res := by rw [str_beq _ _ (check_by k body) hyb, hres]
  have HRES := Aside0.mk hres
  obtain ⟨hkk0, hkk1⟩ := hkk
  have hb1l : (1 : Int) < (b.length : Int) := by omega
  have HSZ := Aside0.mk (show 2 + (u : Int) + 4 + (nn : Int) = (a : Int) + 4 + (nn : Int) by omega)
  have HBL := Aside0.mk hbl
  have hCm2' : ∀ W, kU8.C W (some ad) b.length b → kU8.C W A2 body.length body := hCm2
  have HCM2 := Aside0.mk (And.intro hCm2' hAm2)
  have hcp2 : body.length ≤ c - ((a : Int) + 4).toNat := by omega
  clear ht hbr hrl ha hu hle2 hbody hbl hbb hCm2 hCm2' hAm2 hys hyb hb4 hCm3 hC3 hi5 hi5s hsl hle hn1 hn0 hnl q0 HT hres
  have hb14 : body.length ≤ 140737488355300 := by omega
  cases res with
  | false =>
    have hne : check k body ≠ [y0, y1, y2, y3] := by have := HRES.out; rw [beq_eq_false_iff_ne] at this; exact this
    have ht := HTT.out
    rw [if_pos hne] at ht
    have HT := Aside0.mk ht
    clear ht hne
    go_wp2_with (first | (go_at_call 60; rw [← hW]; refine (Lr.num_calls w.heap.size ad.block l10 0 _ HR1.out HBY10.out).mono ?_; rw [HN.out]; rintro e2 w2 ⟨rfl, hr2, hk2, hs2⟩; obtain ⟨q2, -⟩ := hr2.code; obtain ⟨A4, c4, q4, -, -, -, -, -, -⟩ := hr2.left; have HR2 := Aside0.mk hr2; have HB2 := Aside0.mk (Keep.below_then HBW.out hk2 HBW.out.size (fun i hi e => by omega)); clear hr2 hk2 hs2))
    have HCUR := Aside0.mk (Keep.refl (fun _ => False) w2.drew)
    have HW5 := Aside0.mk (show ∀ W, Keep (fun _ => False) w2.drew W → Below w.heap.size w W from fun W hW => HB2.out.drew.trans (hW.below (Nat.le_trans HB2.out.size (Nat.le_refl _)) (fun _ _ h => h)))
    have HCB2 := Aside0.mk (show kU8.C w2.drew A2 body.length body from Kd.C_below HCB.out HB2.out.drew)
    clear q2 q4
    refine rk_start (fun _ => False) (by kernel_rfl) (n := 13) (l := #[false, false, false, false, false, false, false, false, false, false, false, false, false]) (by kernel_rfl) (by kernel_rfl) ?_
    refine rk_take (fuel := 12) 0 rfl (by kernel_rfl) (listed' := #[true, false, false, false, false, false, false, false, false, false, false, false, false]) (by kernel_rfl) (fun _ _ _ h => h) (by kernel_rfl) (fun w' hR => by go_simp; first | done | with_reducible rfl) rfl ?_
    try simp only [Act.put, List.setIfInBounds_toArray, List.set_cons_zero, List.set_cons_succ]
    refine rk_take (fuel := 11) 1 rfl (by kernel_rfl) (listed' := #[true, true, false, false, false, false, false, false, false, false, false, false, false]) (by kernel_rfl) (fun _ _ _ h => h) (by kernel_rfl) (fun w' hR => by go_simp; first | done | with_reducible rfl) rfl ?_
    try simp only [Act.put, List.setIfInBounds_toArray, List.set_cons_zero, List.set_cons_succ]
    refine rk_take (fuel := 10) 2 rfl (by kernel_rfl) (listed' := #[true, true, true, false, false, false, false, false, false, false, false, false, false]) (by kernel_rfl) (fun _ _ _ h => h) (by kernel_rfl) (fun w' hR => by have x0 := HQK.out w' (HW5.out w' (HCUR.out.trans hR)); go_simp; first | done | with_reducible rfl) rfl ?_
    try simp only [Act.put, List.setIfInBounds_toArray, List.set_cons_zero, List.set_cons_succ]
    refine rk_take (fuel := 9) 3 rfl (by kernel_rfl) (listed' := #[true, true, true, true, false, false, false, false, false, false, false, false, false]) (by kernel_rfl) (fun _ _ _ h => h) (by kernel_rfl) (fun w' hR => by go_simp; first | done | with_reducible rfl) rfl ?_
    try simp only [Act.put, List.setIfInBounds_toArray, List.set_cons_zero, List.set_cons_succ]
    refine rk_take (fuel := 8) 6 rfl (by kernel_rfl) (listed' := #[true, true, true, true, false, false, true, false, false, false, false, false, false]) (by kernel_rfl) (fun _ _ _ h => h) (by kernel_rfl) (fun w' hR => by go_simp; first | done | with_reducible rfl) rfl ?_
    try simp only [Act.put, List.setIfInBounds_toArray, List.set_cons_zero, List.set_cons_succ]
    refine rk_take (fuel := 7) 7 rfl (by kernel_rfl) (listed' := #[true, true, true, true, false, false, true, true, false, false, false, false, false]) (by kernel_rfl) (fun _ _ _ h => h) (by kernel_rfl) (fun w' hR => by go_simp; first | done | with_reducible rfl) rfl ?_
    try simp only [Act.put, List.setIfInBounds_toArray, List.set_cons_zero, List.set_cons_succ]
    refine rk_take (fuel := 6) 8 rfl (by kernel_rfl) (listed' := #[true, true, true, true, false, false, true, true, true, false, false, false, false]) (by kernel_rfl) (fun _ _ _ h => h) (by kernel_rfl) (fun w' hR => by go_simp; first | done | with_reducible rfl) rfl ?_
    try simp only [Act.put, List.setIfInBounds_toArray, List.set_cons_zero, List.set_cons_succ]
    refine rk_take (fuel := 5) 9 rfl (by kernel_rfl) (listed' := #[true, true, true, true, false, false, true, true, true, true, false, false, false]) (by kernel_rfl) (fun _ _ _ h => h) (by kernel_rfl) (fun w' hR => by have y3 := wrI64 ((a : Int) + 4) (by omega) (by omega); go_simp; first | done | with_reducible rfl) rfl ?_
    try simp only [Act.put, List.setIfInBounds_toArray, List.set_cons_zero, List.set_cons_succ]
    refine rk_take (fuel := 4) 10 rfl (by kernel_rfl) (listed' := #[true, true, true, true, false, false, true, true, true, true, true, false, false]) (by kernel_rfl) (fun _ _ _ h => h) (by kernel_rfl) (fun w' hR => by go_simp; first | done | with_reducible rfl) rfl ?_
    try simp only [Act.put, List.setIfInBounds_toArray, List.set_cons_zero, List.set_cons_succ]
    refine rk_take (fuel := 3) 11 rfl (by kernel_rfl) (listed' := #[true, true, true, true, false, false, true, true, true, true, true, true, false]) (by kernel_rfl) (fun _ _ _ h => h) (by kernel_rfl) (fun w' hR => by have x0 := fun cp => C_str (c := cp) (Kd.C_below HC3.out (HW5.out w' (HCUR.out.trans hR))); go_simp; first | done | with_reducible rfl) rfl ?_
    try simp only [Act.put, List.setIfInBounds_toArray, List.set_cons_zero, List.set_cons_succ]
    refine rk_step (fuel := 2) 4 rfl (by kernel_rfl) (listed' := #[true, true, true, true, true, false, true, true, true, true, true, true, false]) (by kernel_rfl) (by kernel_rfl) (fun K' hK => ?_)
    go_wp2_with (first | (go_at_call 37; refine (check_calls k hkk0 hkk1 A2 _ body body.length rfl w2.drew HCB2.out hb14 HBYB.out).mono ?_; rintro e6 w6 ⟨g6, rfl, hC6, hb6⟩; have HC6 := Aside0.mk hC6; have HB7 := Aside0.mk (show Below w2.heap.size w2 w6 from (Below.refl w2.heap.size w2).drew.trans hb6); have HB6 := Aside0.mk (HB2.out.trans (HB7.out.mono HB2.out.size)); have HK6 := Aside0.mk (Keep.of_below (S := fun _ => False) hb6); clear hb6 hC6))
    refine hK.out _ _ HK6.out ?_
    clear hK K'
    try simp only [Act.put, List.setIfInBounds_toArray, List.set_cons_zero, List.set_cons_succ]
    refine rk_take (fuel := 1) 5 rfl (by kernel_rfl) (listed' := #[true, true, true, true, true, true, true, true, true, true, true, true, false]) (by kernel_rfl) (fun _ _ _ h => h) (by kernel_rfl) (fun w' hR => by have x0 := C_str (c := 4) (Kd.C_below HC6.out (hR.below (Nat.le_refl _) (fun _ _ h => h))); go_simp; first | done | with_reducible rfl) rfl ?_
    try simp only [Act.put, List.setIfInBounds_toArray, List.set_cons_zero, List.set_cons_succ]
    refine rk_take (fuel := 0) 12 rfl (by kernel_rfl) (listed' := #[true, true, true, true, true, true, true, true, true, true, true, true, true]) (by kernel_rfl) (fun _ _ _ h => h) (by kernel_rfl) (fun w' hR => by go_simp; first | done | with_reducible rfl) rfl ?_
    try simp only [Act.put, List.setIfInBounds_toArray, List.set_cons_zero, List.set_cons_succ]
    refine rk_done (by kernel_rfl) ?_
    go_wp2
    refine bodyPost_ret (results_tmp4 rfl _ _ _) rfl ?_
    rw [HT.out]
    exact ⟨none, 0, rfl, Nat.le_refl _, ⟨fun W _ => Kd.C_nil _ _, fun a ha => (by cases ha)⟩, HB6.out⟩
  | true =>
    have heq : check k body = [y0, y1, y2, y3] := by have := HRES.out; rw [beq_iff_eq] at this; exact this
    have ht := HTT.out
    rw [if_neg (by rw [heq]; simp)] at ht
    have HT := Aside0.mk ht
    clear ht heq
    go_wp2_with (first | (go_at_call 60; rw [← hW]; refine (Lr.num_calls w.heap.size ad.block l10 0 _ HR1.out HBY10.out).mono ?_; rw [HN.out]; rintro e2 w2 ⟨rfl, hr2, hk2, hs2⟩; obtain ⟨q2, -⟩ := hr2.code; obtain ⟨A4, c4, q4, -, -, -, -, -, -⟩ := hr2.left; have HR2 := Aside0.mk hr2; have HB2 := Aside0.mk (Keep.below_then HBW.out hk2 HBW.out.size (fun i hi e => by omega)); clear hr2 hk2 hs2))
    have HCUR := Aside0.mk (Keep.refl (fun _ => False) w2.drew)
    have HW5 := Aside0.mk (show ∀ W, Keep (fun _ => False) w2.drew W → Below w.heap.size w W from fun W hW => HB2.out.drew.trans (hW.below (Nat.le_trans HB2.out.size (Nat.le_refl _)) (fun _ _ h => h)))
    have HCB2 := Aside0.mk (show kU8.C w2.drew A2 body.length body from Kd.C_below HCB.out HB2.out.drew)
    clear q2 q4
    refine rk_start (fun _ => False) (by kernel_rfl) (n := 13) (l := #[false, false, false, false, false, false, false, false, false, false, false, false, false]) (by kernel_rfl) (by kernel_rfl) ?_
    refine rk_take (fuel := 12) 0 rfl (by kernel_rfl) (listed' := #[true, false, false, false, false, false, false, false, false, false, false, false, false]) (by kernel_rfl) (fun _ _ _ h => h) (by kernel_rfl) (fun w' hR => by go_simp; first | done | with_reducible rfl) rfl ?_
    try simp only [Act.put, List.setIfInBounds_toArray, List.set_cons_zero, List.set_cons_succ]
    refine rk_take (fuel := 11) 1 rfl (by kernel_rfl) (listed' := #[true, true, false, false, false, false, false, false, false, false, false, false, false]) (by kernel_rfl) (fun _ _ _ h => h) (by kernel_rfl) (fun w' hR => by go_simp; first | done | with_reducible rfl) rfl ?_
    try simp only [Act.put, List.setIfInBounds_toArray, List.set_cons_zero, List.set_cons_succ]
    refine rk_take (fuel := 10) 2 rfl (by kernel_rfl) (listed' := #[true, true, true, false, false, false, false, false, false, false, false, false, false]) (by kernel_rfl) (fun _ _ _ h => h) (by kernel_rfl) (fun w' hR => by have x0 := HQK.out w' (HW5.out w' (HCUR.out.trans hR)); go_simp; first | done | with_reducible rfl) rfl ?_
    try simp only [Act.put, List.setIfInBounds_toArray, List.set_cons_zero, List.set_cons_succ]
    refine rk_take (fuel := 9) 3 rfl (by kernel_rfl) (listed' := #[true, true, true, true, false, false, false, false, false, false, false, false, false]) (by kernel_rfl) (fun _ _ _ h => h) (by kernel_rfl) (fun w' hR => by go_simp; first | done | with_reducible rfl) rfl ?_
    try simp only [Act.put, List.setIfInBounds_toArray, List.set_cons_zero, List.set_cons_succ]
    refine rk_take (fuel := 8) 6 rfl (by kernel_rfl) (listed' := #[true, true, true, true, false, false, true, false, false, false, false, false, false]) (by kernel_rfl) (fun _ _ _ h => h) (by kernel_rfl) (fun w' hR => by go_simp; first | done | with_reducible rfl) rfl ?_
    try simp only [Act.put, List.setIfInBounds_toArray, List.set_cons_zero, List.set_cons_succ]
    refine rk_take (fuel := 7) 7 rfl (by kernel_rfl) (listed' := #[true, true, true, true, false, false, true, true, false, false, false, false, false]) (by kernel_rfl) (fun _ _ _ h => h) (by kernel_rfl) (fun w' hR => by go_simp; first | done | with_reducible rfl) rfl ?_
    try simp only [Act.put, List.setIfInBounds_toArray, List.set_cons_zero, List.set_cons_succ]
    refine rk_take (fuel := 6) 8 rfl (by kernel_rfl) (listed' := #[true, true, true, true, false, false, true, true, true, false, false, false, false]) (by kernel_rfl) (fun _ _ _ h => h) (by kernel_rfl) (fun w' hR => by go_simp; first | done | with_reducible rfl) rfl ?_
    try simp only [Act.put, List.setIfInBounds_toArray, List.set_cons_zero, List.set_cons_succ]
    refine rk_take (fuel := 5) 9 rfl (by kernel_rfl) (listed' := #[true, true, true, true, false, false, true, true, true, true, false, false, false]) (by kernel_rfl) (fun _ _ _ h => h) (by kernel_rfl) (fun w' hR => by have y3 := wrI64 ((a : Int) + 4) (by omega) (by omega); go_simp; first | done | with_reducible rfl) rfl ?_
    try simp only [Act.put, List.setIfInBounds_toArray, List.set_cons_zero, List.set_cons_succ]
    refine rk_take (fuel := 4) 10 rfl (by kernel_rfl) (listed' := #[true, true, true, true, false, false, true, true, true, true, true, false, false]) (by kernel_rfl) (fun _ _ _ h => h) (by kernel_rfl) (fun w' hR => by go_simp; first | done | with_reducible rfl) rfl ?_
    try simp only [Act.put, List.setIfInBounds_toArray, List.set_cons_zero, List.set_cons_succ]
    refine rk_take (fuel := 3) 11 rfl (by kernel_rfl) (listed' := #[true, true, true, true, false, false, true, true, true, true, true, true, false]) (by kernel_rfl) (fun _ _ _ h => h) (by kernel_rfl) (fun w' hR => by have x0 := fun cp => C_str (c := cp) (Kd.C_below HC3.out (HW5.out w' (HCUR.out.trans hR))); go_simp; first | done | with_reducible rfl) rfl ?_
    try simp only [Act.put, List.setIfInBounds_toArray, List.set_cons_zero, List.set_cons_succ]
    refine rk_step (fuel := 2) 4 rfl (by kernel_rfl) (listed' := #[true, true, true, true, true, false, true, true, true, true, true, true, false]) (by kernel_rfl) (by kernel_rfl) (fun K' hK => ?_)
    go_wp2_with (first | (go_at_call 37; refine (check_calls k hkk0 hkk1 A2 _ body body.length rfl w2.drew HCB2.out hb14 HBYB.out).mono ?_; rintro e6 w6 ⟨g6, rfl, hC6, hb6⟩; have HC6 := Aside0.mk hC6; have HB7 := Aside0.mk (show Below w2.heap.size w2 w6 from (Below.refl w2.heap.size w2).drew.trans hb6); have HB6 := Aside0.mk (HB2.out.trans (HB7.out.mono HB2.out.size)); have HK6 := Aside0.mk (Keep.of_below (S := fun _ => False) hb6); clear hb6 hC6))
    refine hK.out _ _ HK6.out ?_
    clear hK K'
    try simp only [Act.put, List.setIfInBounds_toArray, List.set_cons_zero, List.set_cons_succ]
    refine rk_take (fuel := 1) 5 rfl (by kernel_rfl) (listed' := #[true, true, true, true, true, true, true, true, true, true, true, true, false]) (by kernel_rfl) (fun _ _ _ h => h) (by kernel_rfl) (fun w' hR => by have x0 := C_str (c := 4) (Kd.C_below HC6.out (hR.below (Nat.le_refl _) (fun _ _ h => h))); go_simp; first | done | with_reducible rfl) rfl ?_
    try simp only [Act.put, List.setIfInBounds_toArray, List.set_cons_zero, List.set_cons_succ]
    refine rk_take (fuel := 0) 12 rfl (by kernel_rfl) (listed' := #[true, true, true, true, true, true, true, true, true, true, true, true, true]) (by kernel_rfl) (fun _ _ _ h => h) (by kernel_rfl) (fun w' hR => by go_simp; first | done | with_reducible rfl) rfl ?_
    try simp only [Act.put, List.setIfInBounds_toArray, List.set_cons_zero, List.set_cons_succ]
    refine rk_done (by kernel_rfl) ?_
    have q1z := HQK.out _ HB6.out
    go_wp2
    refine bodyPost_ret (results_tmp4 rfl _ _ _) rfl ?_
    rw [HT.out]
    refine ⟨A2, _, ?_, hcp2, HCM2.out, HB6.out⟩
    rw [HSZ.out]
    rfl
end Go.Proofs.Ytfcpnjoiloahcaa.Gc
namespace Go.Proofs.Ytfcpnjoiloahcaa.Gc
open Go.RowKit Go.Proofs.YtfcpnjoiloahcaaW.PrintWords Go.Proofs.YtfcpnjoiloahcaaW.PrintLast Go.Proofs.YtfcpnjoiloahcaaW.PrintMore Go.Proofs.Ytfcpnjoiloahcaa.B Go.Proofs.Ytfcpnjoiloahcaa.Ls Go.Proofs.Ytfcpnjoiloahcaa.Gs Go.Proofs.Ytfcpnjoiloahcaa.Go1 Go.Proofs.Ytfcpnjoiloahcaa.S
set_option linter.unusedVariables false
set_option linter.unusedSimpArgs false
theorem infoF : (Try.prog.info? 27).map (fun i => (i.zero, i.size, i.bytes)) = some (some (.agg #[.int .u8 0, .slice none 0 0]), 2, 32) := by kernel_rfl
set_option maxHeartbeats 4000000 in
set_option maxRecDepth 100000 in
theorem all_calls (A : Option Addr) (c : Nat) (b : List Int) (n0 : Nat) (hn0 : b.length = n0) (w : World) (hC : kU8.C w A n0 b) (hc : n0 ≤ c) (hby : By b) (hl : n0 ≤ 1000000) :
    Calls Try.prog 12 #[.slice A n0 c] w fun e w' => ∃ (v : Value) (l : List (Int × List Int)) (m : Nat), e = .returned (.tuple #[v, .int .i64 m]) ∧ AllR b l m ∧ l.length ≤ m ∧ kF.R 27 w' w.heap.size (fun _ => True) v l ∧ Below w.heap.size w w' := by
  have HC := Aside0.mk hC
  have HBY := Aside0.mk hby
  have HN0 := Aside0.mk hn0
  obtain ⟨i5, hi5, -, hi5s, -⟩ := info_ex infoU8
  have HSL := Aside0.mk (fun (j : Int) (h0 : 0 ≤ j) (h1 : j ≤ b.length) => sl_from kU8 24 5 .i64 Try.underlying24 hi5 A c b hi5s j h0 h1 (by rw [hn0]; exact hc))
  have HR0 := Aside0.mk (Kd.R_nil kF 27 w w.heap.size (fun _ => True))
  have HB0 := Aside0.mk (Below.refl w.heap.size w)
  have HL0 := Aside0.mk (show ∀ l' m', AllR (b.drop 0) l' m' → AllR b ([] ++ l') (0 + m') from fun l' m' h => by simpa using h)
  clear hC hby hn0 hi5s
  go_enter Try.func12, Try.ntmps12
  go_wp2_with fail
  go_loopw [4, 5] (fun vo vi wr => ∃ (l : List (Int × List Int)) (n : Nat), n ≤ n0 ∧ vi = .int .i64 n ∧ l.length ≤ n ∧ Aside0 (kF.R 27 wr w.heap.size (fun _ => True) vo l) ∧ Aside0 (Below w.heap.size w wr) ∧ Aside0 (∀ l' m', AllR (b.drop n) l' m' → AllR b (l ++ l') (n + m'))) (fun _ vi _ => n0 - (intOf vi).toNat)
  case atStart => exact ⟨[], 0, by omega, rfl, by simp, HR0, HB0, HL0⟩
  case round =>
    clear HR0 HB0 HL0
    obtain ⟨l, n, hn, rfl, hln, HR, HB, HL⟩ := hrel
    obtain ⟨A1, hrun, hC1, -, hl1⟩ := HSL.out (n : Int) (by omega) (by rw [HN0.out]; omega)
    rw [Int.toNat_natCast] at hrun hC1 hl1
    have h0 := HC.out
    rw [← HN0.out] at h0
    have hC2 := hC1 _ h0
    rw [HN0.out] at hrun
    have hbd := HBY.out.drop n
    have hbl : (b.drop n).length = n0 - n := by rw [List.length_drop, HN0.out]
    obtain ⟨bd, hbd'⟩ : ∃ bd, b.drop n = bd := ⟨_, rfl⟩
    rw [hbd'] at hrun hC2 hbd hbl hl1
    obtain ⟨nd, hnd⟩ : ∃ nd, bd.length = nd := ⟨_, rfl⟩
    rw [hnd] at hrun hC2 hbl hl1
    obtain ⟨k, body, sz, er, ht⟩ : ∃ k body sz er, takeL bd = (k, body, sz, er) := ⟨_, _, _, _, rfl⟩
    have HC2 := Aside0.mk (Kd.C_below hC2 HB.out)
    have HBD := Aside0.mk hbd
    have HT := Aside0.mk ht
    have HND := Aside0.mk hnd
    have HBD' := Aside0.mk hbd'
    obtain ⟨Ao, co, rfl, hco⟩ := Kd.R_reads HR.out
    have hcap := hl1
    clear h0 hC1 hC2 hbd hbl hbd' hnd hl1 hco
    have hnd0 : nd ≤ n0 := by
      have h := congrArg List.length HBD'.out
      rw [List.length_drop, HN0.out, HND.out] at h
      omega
    by_cases her : er = 0
    case neg =>
      have heb : (er != 0) = true := bne_iff_ne.mpr her
      have HST := Aside0.mk (show AllR b (l ++ []) (n + 0) from HL.out [] 0 (by rw [HBD'.out]; exact AllR.stop (by rw [HT.out]; exact her)))
      clear her
      go_wp2_with (first | (go_at_call 36; refine (take_n A1 (c - n) bd nd HND.out k body sz er HT.out _ HC2.out hcap HBD.out (by omega)).mono ?_; rintro e w2 ⟨A2, c2, rfl, -, -, -, hb⟩; have HB2 := Aside0.mk hb; clear hb))
      go_ret2
      rw [List.append_nil, Nat.add_zero] at HST
      exact ⟨_, l, n, rfl, HST.out, hln, Kd.R_below HR.out HB2.out, HB.out.trans (HB2.out.mono HB.out.size)⟩
    subst her
    have heb : ((0 : Int) != 0) = false := by decide
    obtain ⟨hf1, hf2, hf3, -, -, hf6⟩ := take_form HBD.out HT.out
    obtain ⟨s, rfl⟩ : ∃ s : Nat, sz = s := ⟨sz.toNat, by omega⟩
    have hs6 : 6 ≤ s := by rw [lay_len] at hf2; omega
    rw [HND.out, Int.toNat_natCast] at hf6
    have hns : n + s ≤ n0 := by
      have h := congrArg List.length HBD'.out
      rw [List.length_drop, HN0.out, HND.out] at h
      omega
    have HST := Aside0.mk (show ∀ l' m', AllR (b.drop (n + s)) l' m' → AllR b ((l ++ [(k, body)]) ++ l') ((n + s) + m') from fun l' m' h => by
      have h2 := HL.out ((k, body) :: l') (s + m') (by rw [HBD'.out]; exact AllR.step HT.out (by rw [← HBD'.out, List.drop_drop]; exact h))
      rw [List.append_assoc, Nat.add_assoc]
      exact h2)
    clear hf1 hf2 hf6
    go_wp2_with (first
      | (go_at_call 36; refine (take_n A1 (c - n) bd nd HND.out k body s 0 HT.out _ HC2.out hcap HBD.out (by omega)).mono ?_; rintro e w2 ⟨A2, c2, rfl, ho2, -, -, hb⟩; have HO2 := Aside0.mk ho2; have HB2 := Aside0.mk hb; have HRR := Aside0.mk (Kd.R_below HR.out hb); have HWW := Aside0.mk (HB.out.trans (hb.mono HB.out.size)); clear hb ho2)
      | ((with_reducible refine gate_builtin (b := .append) (xs := #[.tmp 23, .tmp 27]) rfl ?_); at_builtin; refine Kd.R_append kF (w0 := w) w.heap.size rfl (.tmp 23) (.tmp 27) 22 27 (.agg #[.int .u8 0, .slice none 0 0]) 32 rfl Try.underlying22 infoF rfl (by decide) (by decide) (.slice Ao l.length co) l (k, body) [.int .u8 k, .slice A2 body.length c2] (fun _ => True) (fun i => wr.heap.size ≤ i) rfl rfl ⟨[_], [_], rfl, rfl, _, rfl, Kd.R_mono (Kd.R_lower (Kd.R_bound HO2.out) HB.out.size) (fun i hi => hi.2.1)⟩ (fun i hi => ⟨trivial, fun e => by have := own_lt (Kd.R_own HR.out).choose_spec i e.symm; omega⟩) (fun _ _ => trivial) HRR.out HWW.out HWW.out.size (by omega) ?_; intro v3 w3 ho3 hb3 hg hat; have HO3 := Aside0.mk ho3; have HB3 := Aside0.mk hb3; clear ho3 hb3 hg hat))
    go_roundw
    case rel => exact ⟨l ++ [(k, body)], n + s, hns, by go_num, by simp; omega, HO3, HB3, HST⟩
    case measure => simp [intOf]; omega
end Go.Proofs.Ytfcpnjoiloahcaa.Gc
namespace Go.Proofs.Ytfcpnjoiloahcaa.Gc
open Go.RowKit Go.Proofs.YtfcpnjoiloahcaaW.PrintWords Go.Proofs.YtfcpnjoiloahcaaW.PrintLast Go.Proofs.YtfcpnjoiloahcaaW.PrintMore Go.Proofs.Ytfcpnjoiloahcaa.B Go.Proofs.Ytfcpnjoiloahcaa.Ls Go.Proofs.Ytfcpnjoiloahcaa.Gs Go.Proofs.Ytfcpnjoiloahcaa.Go1 Go.Proofs.Ytfcpnjoiloahcaa.S Go.Proofs.Ytfcpnjoiloahcaa.R
set_option linter.unusedVariables false
set_option linter.unusedSimpArgs false
/-- A frame whose bytes were there in the world w0. -/
abbrev kX (w0 : World) : Kd (Int × List Int) := Kd.pair (Kd.int .u8) (Kd.fixed (Kd.slice 5 kU8) w0)
theorem kX_read {w0 w : World} (hb : Below w0.heap.size w0 w) {A : Option Addr} {n : Nat} {l : List (Int × List Int)} (h : (kX w0).C w A n l) : kF.C w A n l := by
  refine Kd.C_read (d := kF) (dm := kX w0) rfl ?_ h
  rintro ⟨k, b⟩ cs ⟨c0, c1, rfl, h0, A, c, hA, h1, h2⟩
  exact ⟨c0, c1, rfl, h0, A, c, hA, h1, Kd.C_below h2 hb⟩
theorem rtake_n (A : Option Addr) (c : Nat) (b : List Int) (n : Nat) (hn : b.length = n) (k : Int) (body : List Int) (sz er : Int) (ht : takeL b = (k, body, sz, er)) (w : World) (hC : kU8.C w A n b) (hc : n ≤ c) (hby : By b) (hl : n ≤ 1000000) :
    Calls Try.prog 38 #[.slice A n c] w fun e w' => ∃ A2 c2, e = .returned (.tuple #[.int .u8 k, .slice A2 body.length c2, .int .i64 sz, .int .i64 er]) ∧ body.length ≤ c2 ∧ (∀ W, kU8.C W A n b → kU8.C W A2 body.length body) ∧ Below w.heap.size w w' := by
  subst hn
  refine (rtake_calls A c b w hC hc hby hl).mono ?_
  rw [ht]
  rintro e w' ⟨A2, c2, rfl, h1, h2, hb⟩
  exact ⟨A2, c2, rfl, h1, h2.1, hb⟩
theorem rtakeB_n (A : Option Addr) (c : Nat) (b : List Int) (n : Nat) (hn : b.length = n) (k : Int) (body : List Int) (sz er : Int) (ht : takeL b = (k, body, sz, er)) (w : World) (hC : kU8.C w A n b) (hc : n ≤ c) (hby : By b) (hl : n ≤ 1000000) :
    Calls Try.prog 38 #[.slice A n c] w fun e w' => ∃ A2 c2, e = .returned (.tuple #[.int .u8 k, .slice A2 body.length c2, .int .i64 sz, .int .i64 er]) ∧ body.length ≤ c2 ∧ ((∀ W, kU8.C W A n b → kU8.C W A2 body.length body) ∧ ∀ a, A2 = some a → ∃ a0, A = some a0 ∧ a.block = a0.block) ∧ Below w.heap.size w w' := by
  subst hn
  refine (rtake_calls A c b w hC hc hby hl).mono ?_
  rw [ht]
  rintro e w' ⟨A2, c2, rfl, h1, h2, hb⟩
  exact ⟨A2, c2, rfl, h1, h2, hb⟩
set_option maxHeartbeats 4000000 in
set_option maxRecDepth 100000 in
theorem rall_calls (A : Option Addr) (c : Nat) (b : List Int) (n0 : Nat) (hn0 : b.length = n0) (w : World) (hC : kU8.C w A n0 b) (hc : n0 ≤ c) (hby : By b) (hl : n0 ≤ 1000000) :
    Calls Try.prog 13 #[.slice A n0 c] w fun e w' => ∃ (v : Value) (l : List (Int × List Int)) (m : Nat), e = .returned (.tuple #[v, .int .i64 m]) ∧ AllR b l m ∧ l.length ≤ m ∧ (kX w).R 27 w' w.heap.size (fun _ => True) v l ∧ Below w.heap.size w w' := by
  have HC := Aside0.mk hC
  have HBY := Aside0.mk hby
  have HN0 := Aside0.mk hn0
  obtain ⟨i5, hi5, -, hi5s, -⟩ := info_ex infoU8
  have HSL := Aside0.mk (fun (j : Int) (h0 : 0 ≤ j) (h1 : j ≤ b.length) => sl_from kU8 24 5 .i64 Try.underlying24 hi5 A c b hi5s j h0 h1 (by rw [hn0]; exact hc))
  have HR0 := Aside0.mk (Kd.R_nil (kX w) 27 w w.heap.size (fun _ => True))
  have HB0 := Aside0.mk (Below.refl w.heap.size w)
  have HL0 := Aside0.mk (show ∀ l' m', AllR (b.drop 0) l' m' → AllR b ([] ++ l') (0 + m') from fun l' m' h => by simpa using h)
  clear hC hby hn0 hi5s
  go_enter Try.func13, Try.ntmps13
  go_wp2_with fail
  go_loopw [4, 5] (fun vo vi wr => ∃ (l : List (Int × List Int)) (n : Nat), n ≤ n0 ∧ vi = .int .i64 n ∧ l.length ≤ n ∧ Aside0 ((kX w).R 27 wr w.heap.size (fun _ => True) vo l) ∧ Aside0 (Below w.heap.size w wr) ∧ Aside0 (∀ l' m', AllR (b.drop n) l' m' → AllR b (l ++ l') (n + m'))) (fun _ vi _ => n0 - (intOf vi).toNat)
  case atStart => exact ⟨[], 0, by omega, rfl, by simp, HR0, HB0, HL0⟩
  case round =>
    clear HR0 HB0 HL0
    obtain ⟨l, n, hn, rfl, hln, HR, HB, HL⟩ := hrel
    obtain ⟨A1, hrun, hC1, -, hl1⟩ := HSL.out (n : Int) (by omega) (by rw [HN0.out]; omega)
    rw [Int.toNat_natCast] at hrun hC1 hl1
    have h0 := HC.out
    rw [← HN0.out] at h0
    have hC2 := hC1 _ h0
    rw [HN0.out] at hrun
    have hbd := HBY.out.drop n
    have hbl : (b.drop n).length = n0 - n := by rw [List.length_drop, HN0.out]
    obtain ⟨bd, hbd'⟩ : ∃ bd, b.drop n = bd := ⟨_, rfl⟩
    rw [hbd'] at hrun hC2 hbd hbl hl1
    obtain ⟨nd, hnd⟩ : ∃ nd, bd.length = nd := ⟨_, rfl⟩
    rw [hnd] at hrun hC2 hbl hl1
    obtain ⟨k, body, sz, er, ht⟩ : ∃ k body sz er, takeL bd = (k, body, sz, er) := ⟨_, _, _, _, rfl⟩
    have HC0 := Aside0.mk hC2
    have HC2 := Aside0.mk (Kd.C_below hC2 HB.out)
    have HBD := Aside0.mk hbd
    have HT := Aside0.mk ht
    have HND := Aside0.mk hnd
    have HBD' := Aside0.mk hbd'
    obtain ⟨Ao, co, rfl, hco⟩ := Kd.R_reads HR.out
    have hcap := hl1
    clear h0 hC1 hC2 hbd hbl hbd' hnd hl1 hco
    have hnd0 : nd ≤ n0 := by
      have h := congrArg List.length HBD'.out
      rw [List.length_drop, HN0.out, HND.out] at h
      omega
    by_cases her : er = 0
    case neg =>
      have heb : (er != 0) = true := bne_iff_ne.mpr her
      have HST := Aside0.mk (show AllR b (l ++ []) (n + 0) from HL.out [] 0 (by rw [HBD'.out]; exact AllR.stop (by rw [HT.out]; exact her)))
      clear her
      go_wp2_with (first | (go_at_call 38; refine (rtake_n A1 (c - n) bd nd HND.out k body sz er HT.out _ HC2.out hcap HBD.out (by omega)).mono ?_; rintro e w2 ⟨A2, c2, rfl, -, -, hb⟩; have HB2 := Aside0.mk hb; clear hb))
      go_ret2
      rw [List.append_nil, Nat.add_zero] at HST
      exact ⟨_, l, n, rfl, HST.out, hln, Kd.R_below HR.out HB2.out, HB.out.trans (HB2.out.mono HB.out.size)⟩
    subst her
    have heb : ((0 : Int) != 0) = false := by decide
    obtain ⟨hf1, hf2, hf3, -, -, hf6⟩ := take_form HBD.out HT.out
    obtain ⟨s, rfl⟩ : ∃ s : Nat, sz = s := ⟨sz.toNat, by omega⟩
    have hs6 : 6 ≤ s := by rw [lay_len] at hf2; omega
    rw [HND.out, Int.toNat_natCast] at hf6
    have hns : n + s ≤ n0 := by
      have h := congrArg List.length HBD'.out
      rw [List.length_drop, HN0.out, HND.out] at h
      omega
    have HST := Aside0.mk (show ∀ l' m', AllR (b.drop (n + s)) l' m' → AllR b ((l ++ [(k, body)]) ++ l') ((n + s) + m') from fun l' m' h => by
      have h2 := HL.out ((k, body) :: l') (s + m') (by rw [HBD'.out]; exact AllR.step HT.out (by rw [← HBD'.out, List.drop_drop]; exact h))
      rw [List.append_assoc, Nat.add_assoc]
      exact h2)
    clear hf1 hf2 hf6
    go_wp2_with (first
      | (go_at_call 38; refine (rtake_n A1 (c - n) bd nd HND.out k body s 0 HT.out _ HC2.out hcap HBD.out (by omega)).mono ?_; rintro e w2 ⟨A2, c2, rfl, hl2, hto, hb⟩; have HO2 := Aside0.mk (And.intro hl2 (hto w HC0.out)); have HB2 := Aside0.mk hb; have HRR := Aside0.mk (Kd.R_below HR.out hb); have HWW := Aside0.mk (HB.out.trans (hb.mono HB.out.size)); clear hb hl2 hto)
      | ((with_reducible refine gate_builtin (b := .append) (xs := #[.tmp 23, .tmp 27]) rfl ?_); at_builtin; refine Kd.R_append (kX w) (w0 := w) w.heap.size rfl (.tmp 23) (.tmp 27) 22 27 (.agg #[.int .u8 0, .slice none 0 0]) 32 rfl Try.underlying22 infoF rfl (show 0 < 2 by decide) (by decide) (.slice Ao l.length co) l (k, body) [.int .u8 k, .slice A2 body.length c2] (fun _ => True) (fun i => wr.heap.size ≤ i) rfl rfl ⟨[_], [_], rfl, rfl, A2, c2, rfl, HO2.out.1, HO2.out.2⟩ (fun i hi => ⟨trivial, fun e => by have := own_lt (Kd.R_own HR.out).choose_spec i e.symm; omega⟩) (fun _ _ => trivial) HRR.out HWW.out HWW.out.size (by omega) ?_; intro v3 w3 ho3 hb3 hg hat; have HO3 := Aside0.mk ho3; have HB3 := Aside0.mk hb3; clear ho3 hb3 hg hat))
    go_roundw
    case rel => exact ⟨l ++ [(k, body)], n + s, hns, by go_num, by simp; omega, HO3, HB3, HST⟩
    case measure => simp [intOf]; omega
theorem F_get {w : World} {A : Option Addr} {n : Nat} {m : List (Int × List Int)} (h : kF.C w A n m) {j : Nat} {k : Int} {b : List Int} (hj : m[j]? = some (k, b)) :
    ∃ (ad : Addr) (A2 : Option Addr) (c2 : Nat), A = some ad ∧ w.cell? (ad.add (j * 2)) = some (.int .u8 k) ∧ w.cell? ⟨(ad.add (j * 2)).block, (ad.add (j * 2)).off + 1, none⟩ = some (.slice A2 b.length c2) ∧ b.length ≤ c2 ∧ kU8.C w A2 b.length b := by
  have hl := (List.getElem?_eq_some_iff.1 hj).1
  obtain ⟨ad, e, hc⟩ := h.2.2 (by have := h.1; omega)
  obtain ⟨cs, h1, h2, h3⟩ := hc j _ hj
  obtain ⟨A2, c2, rfl, h4, h5⟩ := frame_K h2
  have g0 := h3 0 _ rfl
  have g1 := h3 1 _ rfl
  have hs : kF.sz = 2 := rfl
  rw [hs] at g0 g1
  rw [← Go.Proofs.YtfcpnjoiloahcaaW.PrintWords.add_add] at g1
  exact ⟨ad, A2, c2, e, g0, g1, h4, h5⟩
set_option maxHeartbeats 4000000 in
set_option maxRecDepth 100000 in
/-- The same frames twice. -/
theorem same_calls (A A' : Option Addr) (c c' : Nat) (l : List (Int × List Int)) (n : Nat) (hn : l.length = n) (hn1 : n ≤ 1000000) (w : World) (hC : kF.C w A n l) (hC' : kF.C w A' n l) :
    Calls Try.prog 14 #[.slice A n c, .slice A' n c'] w fun e w' => e = .returned (.bool true) ∧ Below w.heap.size w w' := by
  have HC := Aside0.mk hC
  have HC' := Aside0.mk hC'
  have HN := Aside0.mk hn
  have HB0 := Aside0.mk (Below.refl w.heap.size w)
  clear hC hC' hn
  go_enter Try.func14, Try.ntmps14
  go_wp2_with fail
  go_loopw [5] (fun vi wr => ∃ k : Nat, k ≤ n ∧ vi = .int .i64 k ∧ Aside0 (Below w.heap.size w wr)) (fun vi _ => n - (intOf vi).toNat)
  case atStart => exact ⟨0, by omega, rfl, HB0⟩
  case round =>
    clear HB0
    obtain ⟨k, hk, rfl, HB⟩ := hrel
    by_cases hgo : k < n
    · obtain ⟨⟨kd, bb⟩, hp⟩ : ∃ p, l[k]? = some p := ⟨_, List.getElem?_eq_getElem (by rw [HN.out]; exact hgo)⟩
      obtain ⟨ad, A3, c3, rfl, q0, q1, -, hCb⟩ := F_get (Kd.C_below HC.out HB.out) hp
      obtain ⟨ad', A4, c4, rfl, q2, q3, -, hCb'⟩ := F_get (Kd.C_below HC'.out HB.out) hp
      have z1 := C_str (c := c3) hCb
      have z2 := C_str (c := c4) hCb'
      have hkk : (kd != kd) = false := by simp
      have HCB := Aside0.mk hCb
      have HCB' := Aside0.mk hCb'
      have HCUR := Aside0.mk (Keep.refl (fun _ => False) wr.drew)
      have HWR := Aside0.mk (show ∀ W, Keep (fun _ => False) wr.drew W → Below wr.heap.size wr W from fun W hW => (Below.refl wr.heap.size wr).drew.trans (hW.below (Nat.le_refl _) (fun _ _ h => h)))
      have HQ := Aside0.mk (And.intro q0 (And.intro q1 (And.intro q2 q3)))
      clear hp hCb hCb' q0 q1 q2 q3 z1 z2
      go_wp2_with fail
      refine rk_start (fun _ => False) (by kernel_rfl) (n := 26) (l := #[false, false, false, false, false, false, false, false, false, false, false, false, false, false, false, false, false, false, false, false, false, false, false, false, false, false]) (by kernel_rfl) (by kernel_rfl) ?_
      refine rk_take (fuel := 25) 0 rfl (by kernel_rfl) (listed' := #[true, false, false, false, false, false, false, false, false, false, false, false, false, false, false, false, false, false, false, false, false, false, false, false, false, false]) (by kernel_rfl) (fun _ _ _ h => h) (by kernel_rfl) (fun w' hR => by go_simp; first | done | with_reducible rfl) rfl ?_
      try simp only [Act.put, List.setIfInBounds_toArray, List.set_cons_zero, List.set_cons_succ]
      refine rk_take (fuel := 24) 1 rfl (by kernel_rfl) (listed' := #[true, true, false, false, false, false, false, false, false, false, false, false, false, false, false, false, false, false, false, false, false, false, false, false, false, false]) (by kernel_rfl) (fun _ _ _ h => h) (by kernel_rfl) (fun w' hR => by go_simp; first | done | with_reducible rfl) rfl ?_
      try simp only [Act.put, List.setIfInBounds_toArray, List.set_cons_zero, List.set_cons_succ]
      refine rk_take (fuel := 23) 2 rfl (by kernel_rfl) (listed' := #[true, true, true, false, false, false, false, false, false, false, false, false, false, false, false, false, false, false, false, false, false, false, false, false, false, false]) (by kernel_rfl) (fun _ _ _ h => h) (by kernel_rfl) (fun w' hR => by go_simp; first | done | with_reducible rfl) rfl ?_
      try simp only [Act.put, List.setIfInBounds_toArray, List.set_cons_zero, List.set_cons_succ]
      refine rk_take (fuel := 22) 3 rfl (by kernel_rfl) (listed' := #[true, true, true, true, false, false, false, false, false, false, false, false, false, false, false, false, false, false, false, false, false, false, false, false, false, false]) (by kernel_rfl) (fun _ _ _ h => h) (by kernel_rfl) (fun w' hR => by go_simp; first | done | with_reducible rfl) rfl ?_
      try simp only [Act.put, List.setIfInBounds_toArray, List.set_cons_zero, List.set_cons_succ]
      refine rk_take (fuel := 21) 4 rfl (by kernel_rfl) (listed' := #[true, true, true, true, true, false, false, false, false, false, false, false, false, false, false, false, false, false, false, false, false, false, false, false, false, false]) (by kernel_rfl) (fun _ _ _ h => h) (by kernel_rfl) (fun w' hR => by have x0 := pw_cell_below (HWR.out w' (HCUR.out.trans hR)) HQ.out.1; go_simp; first | done | with_reducible rfl) rfl ?_
      try simp only [Act.put, List.setIfInBounds_toArray, List.set_cons_zero, List.set_cons_succ]
      refine rk_take (fuel := 20) 5 rfl (by kernel_rfl) (listed' := #[true, true, true, true, true, true, false, false, false, false, false, false, false, false, false, false, false, false, false, false, false, false, false, false, false, false]) (by kernel_rfl) (fun _ _ _ h => h) (by kernel_rfl) (fun w' hR => by go_simp; first | done | with_reducible rfl) rfl ?_
      try simp only [Act.put, List.setIfInBounds_toArray, List.set_cons_zero, List.set_cons_succ]
      refine rk_take (fuel := 19) 6 rfl (by kernel_rfl) (listed' := #[true, true, true, true, true, true, true, false, false, false, false, false, false, false, false, false, false, false, false, false, false, false, false, false, false, false]) (by kernel_rfl) (fun _ _ _ h => h) (by kernel_rfl) (fun w' hR => by go_simp; first | done | with_reducible rfl) rfl ?_
      try simp only [Act.put, List.setIfInBounds_toArray, List.set_cons_zero, List.set_cons_succ]
      refine rk_take (fuel := 18) 7 rfl (by kernel_rfl) (listed' := #[true, true, true, true, true, true, true, true, false, false, false, false, false, false, false, false, false, false, false, false, false, false, false, false, false, false]) (by kernel_rfl) (fun _ _ _ h => h) (by kernel_rfl) (fun w' hR => by go_simp; first | done | with_reducible rfl) rfl ?_
      try simp only [Act.put, List.setIfInBounds_toArray, List.set_cons_zero, List.set_cons_succ]
      refine rk_take (fuel := 17) 8 rfl (by kernel_rfl) (listed' := #[true, true, true, true, true, true, true, true, true, false, false, false, false, false, false, false, false, false, false, false, false, false, false, false, false, false]) (by kernel_rfl) (fun _ _ _ h => h) (by kernel_rfl) (fun w' hR => by go_simp; first | done | with_reducible rfl) rfl ?_
      try simp only [Act.put, List.setIfInBounds_toArray, List.set_cons_zero, List.set_cons_succ]
      refine rk_take (fuel := 16) 9 rfl (by kernel_rfl) (listed' := #[true, true, true, true, true, true, true, true, true, true, false, false, false, false, false, false, false, false, false, false, false, false, false, false, false, false]) (by kernel_rfl) (fun _ _ _ h => h) (by kernel_rfl) (fun w' hR => by have x0 := pw_cell_below (HWR.out w' (HCUR.out.trans hR)) HQ.out.2.2.1; go_simp; first | done | with_reducible rfl) rfl ?_
      try simp only [Act.put, List.setIfInBounds_toArray, List.set_cons_zero, List.set_cons_succ]
      refine rk_take (fuel := 15) 10 rfl (by kernel_rfl) (listed' := #[true, true, true, true, true, true, true, true, true, true, true, false, false, false, false, false, false, false, false, false, false, false, false, false, false, false]) (by kernel_rfl) (fun _ _ _ h => h) (by kernel_rfl) (fun w' hR => by go_simp; first | done | with_reducible rfl) rfl ?_
      try simp only [Act.put, List.setIfInBounds_toArray, List.set_cons_zero, List.set_cons_succ]
      refine rk_take (fuel := 14) 11 rfl (by kernel_rfl) (listed' := #[true, true, true, true, true, true, true, true, true, true, true, true, false, false, false, false, false, false, false, false, false, false, false, false, false, false]) (by kernel_rfl) (fun _ _ _ h => h) (by kernel_rfl) (fun w' hR => by go_simp; first | done | with_reducible rfl) rfl ?_
      try simp only [Act.put, List.setIfInBounds_toArray, List.set_cons_zero, List.set_cons_succ]
      refine rk_take (fuel := 13) 12 rfl (by kernel_rfl) (listed' := #[true, true, true, true, true, true, true, true, true, true, true, true, true, false, false, false, false, false, false, false, false, false, false, false, false, false]) (by kernel_rfl) (fun _ _ _ h => h) (by kernel_rfl) (fun w' hR => by go_simp; first | done | with_reducible rfl) rfl ?_
      try simp only [Act.put, List.setIfInBounds_toArray, List.set_cons_zero, List.set_cons_succ]
      refine rk_take (fuel := 12) 13 rfl (by kernel_rfl) (listed' := #[true, true, true, true, true, true, true, true, true, true, true, true, true, true, false, false, false, false, false, false, false, false, false, false, false, false]) (by kernel_rfl) (fun _ _ _ h => h) (by kernel_rfl) (fun w' hR => by go_simp; first | done | with_reducible rfl) rfl ?_
      try simp only [Act.put, List.setIfInBounds_toArray, List.set_cons_zero, List.set_cons_succ]
      refine rk_take (fuel := 11) 14 rfl (by kernel_rfl) (listed' := #[true, true, true, true, true, true, true, true, true, true, true, true, true, true, true, false, false, false, false, false, false, false, false, false, false, false]) (by kernel_rfl) (fun _ _ _ h => h) (by kernel_rfl) (fun w' hR => by go_simp; first | done | with_reducible rfl) rfl ?_
      try simp only [Act.put, List.setIfInBounds_toArray, List.set_cons_zero, List.set_cons_succ]
      refine rk_take (fuel := 10) 15 rfl (by kernel_rfl) (listed' := #[true, true, true, true, true, true, true, true, true, true, true, true, true, true, true, true, false, false, false, false, false, false, false, false, false, false]) (by kernel_rfl) (fun _ _ _ h => h) (by kernel_rfl) (fun w' hR => by go_simp; first | done | with_reducible rfl) rfl ?_
      try simp only [Act.put, List.setIfInBounds_toArray, List.set_cons_zero, List.set_cons_succ]
      refine rk_take (fuel := 9) 16 rfl (by kernel_rfl) (listed' := #[true, true, true, true, true, true, true, true, true, true, true, true, true, true, true, true, true, false, false, false, false, false, false, false, false, false]) (by kernel_rfl) (fun _ _ _ h => h) (by kernel_rfl) (fun w' hR => by have x0 := pw_cell_below (HWR.out w' (HCUR.out.trans hR)) HQ.out.2.1; go_simp; first | done | with_reducible rfl) rfl ?_
      try simp only [Act.put, List.setIfInBounds_toArray, List.set_cons_zero, List.set_cons_succ]
      refine rk_take (fuel := 8) 17 rfl (by kernel_rfl) (listed' := #[true, true, true, true, true, true, true, true, true, true, true, true, true, true, true, true, true, true, false, false, false, false, false, false, false, false]) (by kernel_rfl) (fun _ _ _ h => h) (by kernel_rfl) (fun w' hR => by have x0 := C_str (c := c3) (Kd.C_below HCB.out (HWR.out w' (HCUR.out.trans hR))); go_simp; first | done | with_reducible rfl) rfl ?_
      try simp only [Act.put, List.setIfInBounds_toArray, List.set_cons_zero, List.set_cons_succ]
      refine rk_take (fuel := 7) 18 rfl (by kernel_rfl) (listed' := #[true, true, true, true, true, true, true, true, true, true, true, true, true, true, true, true, true, true, true, false, false, false, false, false, false, false]) (by kernel_rfl) (fun _ _ _ h => h) (by kernel_rfl) (fun w' hR => by go_simp; first | done | with_reducible rfl) rfl ?_
      try simp only [Act.put, List.setIfInBounds_toArray, List.set_cons_zero, List.set_cons_succ]
      refine rk_take (fuel := 6) 19 rfl (by kernel_rfl) (listed' := #[true, true, true, true, true, true, true, true, true, true, true, true, true, true, true, true, true, true, true, true, false, false, false, false, false, false]) (by kernel_rfl) (fun _ _ _ h => h) (by kernel_rfl) (fun w' hR => by go_simp; first | done | with_reducible rfl) rfl ?_
      try simp only [Act.put, List.setIfInBounds_toArray, List.set_cons_zero, List.set_cons_succ]
      refine rk_take (fuel := 5) 20 rfl (by kernel_rfl) (listed' := #[true, true, true, true, true, true, true, true, true, true, true, true, true, true, true, true, true, true, true, true, true, false, false, false, false, false]) (by kernel_rfl) (fun _ _ _ h => h) (by kernel_rfl) (fun w' hR => by go_simp; first | done | with_reducible rfl) rfl ?_
      try simp only [Act.put, List.setIfInBounds_toArray, List.set_cons_zero, List.set_cons_succ]
      refine rk_take (fuel := 4) 21 rfl (by kernel_rfl) (listed' := #[true, true, true, true, true, true, true, true, true, true, true, true, true, true, true, true, true, true, true, true, true, true, false, false, false, false]) (by kernel_rfl) (fun _ _ _ h => h) (by kernel_rfl) (fun w' hR => by go_simp; first | done | with_reducible rfl) rfl ?_
      try simp only [Act.put, List.setIfInBounds_toArray, List.set_cons_zero, List.set_cons_succ]
      refine rk_take (fuel := 3) 22 rfl (by kernel_rfl) (listed' := #[true, true, true, true, true, true, true, true, true, true, true, true, true, true, true, true, true, true, true, true, true, true, true, false, false, false]) (by kernel_rfl) (fun _ _ _ h => h) (by kernel_rfl) (fun w' hR => by have x0 := pw_cell_below (HWR.out w' (HCUR.out.trans hR)) HQ.out.2.2.2; go_simp; first | done | with_reducible rfl) rfl ?_
      try simp only [Act.put, List.setIfInBounds_toArray, List.set_cons_zero, List.set_cons_succ]
      refine rk_take (fuel := 2) 23 rfl (by kernel_rfl) (listed' := #[true, true, true, true, true, true, true, true, true, true, true, true, true, true, true, true, true, true, true, true, true, true, true, true, false, false]) (by kernel_rfl) (fun _ _ _ h => h) (by kernel_rfl) (fun w' hR => by have x0 := C_str (c := c4) (Kd.C_below HCB'.out (HWR.out w' (HCUR.out.trans hR))); go_simp; first | done | with_reducible rfl) rfl ?_
      try simp only [Act.put, List.setIfInBounds_toArray, List.set_cons_zero, List.set_cons_succ]
      refine rk_take (fuel := 1) 24 rfl (by kernel_rfl) (listed' := #[true, true, true, true, true, true, true, true, true, true, true, true, true, true, true, true, true, true, true, true, true, true, true, true, true, false]) (by kernel_rfl) (fun _ _ _ h => h) (by kernel_rfl) (fun w' hR => by go_simp; first | done | with_reducible rfl) rfl ?_
      try simp only [Act.put, List.setIfInBounds_toArray, List.set_cons_zero, List.set_cons_succ]
      refine rk_take (fuel := 0) 25 rfl (by kernel_rfl) (listed' := #[true, true, true, true, true, true, true, true, true, true, true, true, true, true, true, true, true, true, true, true, true, true, true, true, true, true]) (by kernel_rfl) (fun _ _ _ h => h) (by kernel_rfl) (fun w' hR => by go_simp; first | done | with_reducible rfl) rfl ?_
      try simp only [Act.put, List.setIfInBounds_toArray, List.set_cons_zero, List.set_cons_succ]
      refine rk_done (by kernel_rfl) ?_
      go_wp2
      go_roundw
      case rel => exact ⟨k + 1, by omega, by go_num, ⟨HB.out.drew⟩⟩
      case measure => simp [intOf]; omega
    · have hke : k = n := by omega
      subst hke
      go_wp2_with fail
      go_ret
      exact ⟨rfl, HB.out⟩
end Go.Proofs.Ytfcpnjoiloahcaa.Gc
namespace Go.Proofs.Ytfcpnjoiloahcaa.Bk
open Go.RowKit Go.Proofs.YtfcpnjoiloahcaaW.PrintWords Go.Proofs.YtfcpnjoiloahcaaW.PrintLast Go.Proofs.YtfcpnjoiloahcaaW.PrintMore Go.Proofs.Ytfcpnjoiloahcaa.B Go.Proofs.Ytfcpnjoiloahcaa.Ta Go.Proofs.Ytfcpnjoiloahcaa.Fs Go.Proofs.Ytfcpnjoiloahcaa.Sp Go.Proofs.Ytfcpnjoiloahcaa.Ls Go.Proofs.Ytfcpnjoiloahcaa.Gs Go.Proofs.Ytfcpnjoiloahcaa.Go1 Go.Proofs.Ytfcpnjoiloahcaa.S
set_option linter.unusedVariables false
set_option linter.unusedSimpArgs false
theorem infoU8 : (Try.prog.info? 5).map (fun i => (i.zero, i.size, i.bytes)) = some (some (.int .u8 0), 1, 1) := by kernel_rfl
/-! ### Plainly -/
def recL (j : Int) (d : List Int) : List Int := layL 1 (j :: d)
theorem rd_range {b rest : List Int} {j cd : Int} (hby : By b) (h : below 16 b 0 = (j, rest, cd)) : 0 ≤ j ∧ j < 16 ∧ rest.length ≤ b.length ∧ By rest := by
  have hr := num_range b 0 hby
  have hl := Gc.num_left b 0
  have hb := below_by 16 b 0 hby
  rw [h] at hb
  unfold below at h
  split at h
  · split at h
    · simp only [Prod.mk.injEq] at h
      obtain ⟨rfl, rfl, -⟩ := h
      exact ⟨by omega, by omega, hl, hb⟩
    · rename_i h1
      rw [h] at hr hl h1
      simp only at hr hl h1
      exact ⟨hr.1, by omega, hl, hb⟩
  · simp only [Prod.mk.injEq] at h
    obtain ⟨rfl, h⟩ := h
    rw [h] at hl
    exact ⟨by omega, by omega, hl, hb⟩
theorem takes_all (rest : List Int) (cd : Int) : ∃ l2, takes rest.length rest cd = (if cd = 0 then rest else [], l2, cd) ∧ ended l2 cd = cd ∧ l2.length ≤ rest.length := by
  by_cases h : cd = 0
  · subst h
    refine ⟨[], ?_, rfl, by simp⟩
    unfold takes
    rw [if_pos rfl, if_pos rfl, if_neg (by omega), Int.toNat_natCast, List.take_length, List.drop_length]
  · refine ⟨rest, ?_, ?_, Nat.le_refl _⟩
    · unfold takes
      rw [if_neg h, if_neg h]
    · unfold ended failed
      rw [if_neg h]
      split <;> rfl
theorem put_one {j : Int} (h0 : 0 ≤ j) (h1 : j < 16) : putl j.toNat = [j] := by
  rw [putl, if_pos (by omega)]
  congr 1
  omega
/-- A record is read as it was laid. -/
theorem rd_one {j : Int} {d : List Int} (h0 : 0 ≤ j) (h1 : j < 16) : below 16 (j :: d) 0 = (j, d, 0) := by
  have hn : num (j :: d) 0 = (j, d, 0) := by
    unfold num
    rw [if_pos rfl, numGo, if_neg (by omega), if_pos (by omega)]
    simp
  unfold below
  rw [hn, if_pos rfl, if_neg (by simp only; omega)]
/-! ### read -/
set_option maxHeartbeats 2000000 in
set_option maxRecDepth 100000 in
theorem read_calls (k : Int) (A : Option Addr) (n c : Nat) (b : List Int) (hn : b.length = n) (w : World) (hC : kU8.C w A n b) (hby : By b) (hl : n ≤ 1000000) (j : Int) (rest : List Int) (cd : Int) (hbe : below 16 b 0 = (j, rest, cd)) (d : List Int) (hd : (if cd = 0 then rest else []) = d) (ok : Bool) (hok : (decide (k = 1) && decide (cd = 0)) = ok) :
    Calls Try.prog 39 #[.agg #[.int .u8 k, .slice A n c]] w fun e w' => ∃ A2 c2, e = .returned (.tuple #[.int .i64 j, .slice A2 d.length c2, .bool ok]) ∧ kU8.C w' A2 d.length d ∧ d.length ≤ c2 ∧ (∀ a, A2 = some a → w.heap.size ≤ a.block ∧ a.block < w'.heap.size) ∧ Below w.heap.size w w' := by
  subst hn
  obtain ⟨W, hW⟩ : ∃ W, W = w.alloc (.cells #[.int .u8 k, .slice A b.length c] 27) := ⟨_, rfl⟩
  have hWn : W.heap[w.heap.size]? = some (.cells #[.int .u8 k, .slice A b.length c] 27 (0, 0)) := by rw [hW]; exact heap_alloc_new _ _
  have hWs : W.heap.size = w.heap.size + 1 := by rw [hW]; exact World.size_alloc _ _
  have hWb : Below w.heap.size w W := by rw [hW]; exact (Below.refl _ _).alloc (Nat.le_refl _) _
  have HC := Aside0.mk (Kd.C_below hC hWb)
  obtain ⟨l2, ht, hend, hl2⟩ := takes_all rest cd
  obtain ⟨hj0, hj1, hrl, hrb⟩ := rd_range hby hbe
  rw [hd] at ht
  have HBE := Aside0.mk hbe
  have HT := Aside0.mk ht
  have HE := Aside0.mk hend
  have HBY := Aside0.mk hby
  have HWB := Aside0.mk hWb
  have HWN := Aside0.mk hWn
  have q0 : W.cell? ⟨w.heap.size, 0, none⟩ = some (.int .u8 k) := by simp [World.cell?, hWn]
  have q1 : W.cell? ⟨w.heap.size, 1, none⟩ = some (.slice A b.length c) := by simp [World.cell?, hWn]
  have HOK := Aside0.mk hok
  clear hC hbe ht hend hd hby hWb hWn hok
  go_enter Try.func39, Try.ntmps39
  by_cases hk1 : k = 1
  · subst hk1
    go_wp2_with (first
      | (go_at_call 55; rw [← hW]; refine (Lc.new_calls A c b W HC.out (by omega)).mono ?_; rintro e w2 ⟨g, p, rfl, hr2, hb2, hg2, hp2, hp2'⟩; have HR2 := Aside0.mk hr2; have HB2 := Aside0.mk hb2; have HG := Aside0.mk (And.intro hg2 (And.intro hp2 hp2')); clear hr2 hb2 hg2 hp2 hp2')
      | (go_at_call 61; refine (Lc.below_calls g p b 0 16 w2 HR2.out HBY.out (by decide) (by decide)).mono ?_; rw [HBE.out]; rintro e w3 ⟨rfl, hr3, hk3, hs3⟩; have HR3 := Aside0.mk hr3; have HK3 := Aside0.mk hk3; have HS3 := Aside0.mk hs3; clear hr3 hk3 hs3 HR2)
      | (go_at_call 58; refine (Lc.left_calls g p rest cd w3 HR3.out).mono ?_; rintro e w9 ⟨rfl, rfl⟩)
      | (go_at_call 62; refine (Lc.bytes_calls g p rest cd rest.length w3 HR3.out (by rw [HS3.out]; exact HG.out.2.2) (by omega)).mono ?_; rw [HT.out]; rintro e w4 ⟨v4, rfl, ho4, hr4, hk4⟩; obtain ⟨A4, c4, rfl, hl4, hC4⟩ := Kd.R_reads ho4; have HA4 := Aside0.mk (fun a (ha : A4 = some a) => R_at (a := a) (by rw [← ha]; exact ho4)); have HC4 := Aside0.mk hC4; have HL4 := Aside0.mk hl4; have HR4 := Aside0.mk hr4; have HK4 := Aside0.mk hk4; have hgs := HR3.out.lt; have hg5 := HG.out.1; have q4 : w4.cell? ⟨w.heap.size, 0, none⟩ = some (.int .u8 1) := (World.cell?_of_block ((HK4.out.block w.heap.size (by omega) (by omega)).trans (((HK3.out.block w.heap.size (by have := HS3.out; omega) (by omega)).trans (HB2.out.block w.heap.size (by omega)))))).trans q0; clear ho4 hl4 hC4 hr4 hk4)
      | (go_at_call 63; refine (Lc.end_calls g p l2 cd w4 HR4.out).mono ?_; rw [HE.out]; rintro e w5 ⟨rfl, hr5, hk5, hs5⟩; have HK5 := Aside0.mk hk5; have HS5 := Aside0.mk hs5; clear hr5 hk5 hs5))
    refine bodyPost_ret (results_tmp3 rfl _ _ _) rfl ?_
    have hgs := HR3.out.lt
    have hg5 := HG.out.1
    have hz2 := HB2.out.size
    have hz3 := HS3.out
    have hz4 := HK4.out.size
    have hz5 := HS5.out
    have hB : Below w.heap.size w w5 := ((((HWB.out.trans (HB2.out.mono (by omega))).trans (HK3.out.below (by omega) (fun i hi e => by omega))).trans (HK4.out.below (by omega) (fun i hi e => by omega))).trans (HK5.out.below (by omega) (fun i hi e => by omega)))
    refine ⟨A4, c4, ?_, C_blk HC4.out (fun a e => HK5.out.block _ (HA4.out a e).2 (fun h => by have := (HA4.out a e).1; omega)), HL4.out, fun a e => ⟨by have := (HA4.out a e).1; omega, by have := (HA4.out a e).2; omega⟩, hB⟩
    rw [← HOK.out]
    rfl
  · have hk8 : (k == 1) = false := beq_eq_false_iff_ne.mpr hk1
    go_wp2_with (first
      | (go_at_call 55; rw [← hW]; refine (Lc.new_calls A c b W HC.out (by omega)).mono ?_; rintro e w2 ⟨g, p, rfl, hr2, hb2, hg2, hp2, hp2'⟩; have HR2 := Aside0.mk hr2; have HB2 := Aside0.mk hb2; have HG := Aside0.mk (And.intro hg2 (And.intro hp2 hp2')); clear hr2 hb2 hg2 hp2 hp2')
      | (go_at_call 61; refine (Lc.below_calls g p b 0 16 w2 HR2.out HBY.out (by decide) (by decide)).mono ?_; rw [HBE.out]; rintro e w3 ⟨rfl, hr3, hk3, hs3⟩; have HR3 := Aside0.mk hr3; have HK3 := Aside0.mk hk3; have HS3 := Aside0.mk hs3; clear hr3 hk3 hs3 HR2)
      | (go_at_call 58; refine (Lc.left_calls g p rest cd w3 HR3.out).mono ?_; rintro e w9 ⟨rfl, rfl⟩)
      | (go_at_call 62; refine (Lc.bytes_calls g p rest cd rest.length w3 HR3.out (by rw [HS3.out]; exact HG.out.2.2) (by omega)).mono ?_; rw [HT.out]; rintro e w4 ⟨v4, rfl, ho4, hr4, hk4⟩; obtain ⟨A4, c4, rfl, hl4, hC4⟩ := Kd.R_reads ho4; have HA4 := Aside0.mk (fun a (ha : A4 = some a) => R_at (a := a) (by rw [← ha]; exact ho4)); have HC4 := Aside0.mk hC4; have HL4 := Aside0.mk hl4; have HR4 := Aside0.mk hr4; have HK4 := Aside0.mk hk4; have hgs := HR3.out.lt; have hg5 := HG.out.1; have q4 : w4.cell? ⟨w.heap.size, 0, none⟩ = some (.int .u8 k) := (World.cell?_of_block ((HK4.out.block w.heap.size (by omega) (by omega)).trans (((HK3.out.block w.heap.size (by have := HS3.out; omega) (by omega)).trans (HB2.out.block w.heap.size (by omega)))))).trans q0; clear ho4 hl4 hC4 hr4 hk4))
    refine bodyPost_ret (results_tmp3 rfl _ _ _) rfl ?_
    have hgs := HR3.out.lt
    have hg5 := HG.out.1
    have hz2 := HB2.out.size
    have hz3 := HS3.out
    have hz4 := HK4.out.size
    have hB : Below w.heap.size w w4 := (((HWB.out.trans (HB2.out.mono (by omega))).trans (HK3.out.below (by omega) (fun i hi e => by omega))).trans (HK4.out.below (by omega) (fun i hi e => by omega)))
    refine ⟨A4, c4, ?_, HC4.out, HL4.out, fun a e => ⟨by have := (HA4.out a e).1; omega, (HA4.out a e).2⟩, hB⟩
    rw [← HOK.out, decide_eq_false hk1]
    rfl
/-! ### record -/
set_option maxHeartbeats 2000000 in
set_option maxRecDepth 100000 in
theorem record_calls (j : Int) (h0 : 0 ≤ j) (h1 : j < 16) (A : Option Addr) (n c : Nat) (b : List Int) (hn : b.length = n) (w : World) (hC : kU8.C w A n b) (hby : By b) (hl : n ≤ 60000) (r : List Int) (m : Nat) (hr : recL j b = r) (hm : r.length = m) :
    Calls Try.prog 67 #[.int .i64 j, .slice A n c] w fun e w' => ∃ A2 c2, e = .returned (.tuple #[.slice A2 m c2, .int .i64 0]) ∧ kU8.C w' A2 m r ∧ m ≤ c2 ∧ Below w.heap.size w w' := by
  subst hn
  have HC := Aside0.mk hC
  have HM := Aside0.mk hm
  have HR := Aside0.mk hr
  have HBY := Aside0.mk (show By (j :: b) from fun x hx => by
    rcases List.mem_cons.1 hx with rfl | hx
    · omega
    · exact hby x hx)
  have HP := Aside0.mk (put_one h0 h1)
  have HL := Aside0.mk (show (j :: b).length = b.length + 1 by simp)
  have y1 := wrU64 j (by omega) (by omega)
  clear hC hby hm hr
  go_enter Try.func67, Try.ntmps67
  go_wp2_with (first
    | (go_at_call 53; refine (Lc.put_calls none 0 [] j _ (C_nil .u8 w) (by simp) (by omega) (by omega)).mono ?_; rintro e w1 ⟨v1, rfl, ho1, hb1⟩; rw [HP.out, List.nil_append] at ho1; have HO1 := Aside0.mk ho1; have HB1 := Aside0.mk hb1; clear ho1 hb1)
    | ((with_reducible refine gate_builtin (b := .append) (xs := #[.tmp 8, .tmp 9]) rfl ?_); at_builtin; refine Kd.R_append_rows (Kd.int .u8) (w0 := w) w.heap.size rfl (.tmp 8) (.tmp 9) 24 5 (.int .u8 0) 1 rfl Try.underlying24 infoU8 rfl (by decide) (by omega) v1 [j] b _ _ _ (fun _ => True) (fun _ => False) rfl rfl ?aO ?aR (fun _ _ h => h) (fun _ h => h.elim) ?aF ?aB ?aS ?aL ?_; (case aR => exact (Kd.C_below HC.out HB1.out)); (case aB => exact HB1.out); (case aF => exact (fun _ _ => trivial)); (case aO => exact HO1.out); (case aS => (exact HB1.out.size)); (case aL => (simp only [List.length_cons, List.length_nil]; omega)); (intro v3 w3 ho3 hb3 hg hat; rw [List.singleton_append] at ho3; obtain ⟨A3, c3, rfl, hl3, hC3⟩ := Kd.R_reads ho3; rw [HL.out] at hl3 hC3; (try rw [HL.out]); have HL3 := Aside0.mk hl3; have HC3 := Aside0.mk hC3; have HB3 := Aside0.mk hb3; clear ho3 hb3 hg hat hl3 hC3))
    | (go_at_call 35; refine (Gc.lay_n 1 (by decide) (by decide) A3 c3 (j :: b) (b.length + 1) HL.out r m HR.out HM.out w3 HC3.out HL3.out HBY.out (by omega)).mono ?_; rintro e w4 ⟨A4, c4, rfl, -, hC4, hl4, hb4⟩; have HC4 := Aside0.mk hC4; have HL4 := Aside0.mk hl4; have HB4 := Aside0.mk hb4; clear hC4 hl4 hb4))
  go_ret2
  exact ⟨A4, c4, rfl, HC4.out, HL4.out, HB3.out.trans (HB4.out.mono HB3.out.size)⟩
end Go.Proofs.Ytfcpnjoiloahcaa.Bk
namespace Go.Proofs.Ytfcpnjoiloahcaa.Bk
open Go.RowKit Go.Proofs.YtfcpnjoiloahcaaW.PrintWords Go.Proofs.YtfcpnjoiloahcaaW.PrintLast Go.Proofs.YtfcpnjoiloahcaaW.PrintMore Go.Proofs.Ytfcpnjoiloahcaa.B Go.Proofs.Ytfcpnjoiloahcaa.Ta Go.Proofs.Ytfcpnjoiloahcaa.Fs Go.Proofs.Ytfcpnjoiloahcaa.Sp Go.Proofs.Ytfcpnjoiloahcaa.Ls Go.Proofs.Ytfcpnjoiloahcaa.Gs Go.Proofs.Ytfcpnjoiloahcaa.Go1 Go.Proofs.Ytfcpnjoiloahcaa.S Go.Proofs.Ytfcpnjoiloahcaa.R
set_option linter.unusedVariables false
set_option linter.unusedSimpArgs false
/-- What laying a record comes to; what waits then. -/
def layR (room : Int) (s : List Int) (t : Tab) (j : Int) (b : List Int) : Int :=
  if j < 0 ∨ 16 ≤ j then 2 else if (getT t j).isSome then 51 else if room < s.length + (recL j b).length then 50 else 0
def layQ (room : Int) (s : List Int) (t : Tab) (j : Int) (b : List Int) : List (Int × List Int) := if layR room s t j b = 0 then [((s.length : Int), recL j b)] else []
section
variable {W0 w w1 : World} {N : Nat → Prop} {R : Assn} {g gB gF : Nat} {room size : Int} {s : List Int} {q : List (Int × List Int)} {t : Tab}
theorem t_get (h : AtP W0 N w (Star (TabA gB gF size t) R)) (k : Int) (is : Bool) (hg : (getT t k).isSome = is) :
    Calls Try.prog 40 #[.pointer (some ⟨gB, 2, none⟩), .int .i64 k] w fun e w' => ∃ A n c, e = .returned (.tuple #[.slice A n c, .bool is]) ∧ w' = w := by
  obtain ⟨own, h1, h2⟩ := h.get
  cases hk : getT t k with
  | none =>
    rw [hk] at hg
    subst hg
    refine (get_none_calls h1.1 h1.2 k hk).mono ?_
    rintro e w' ⟨rfl, rfl⟩
    exact ⟨none, 0, 0, rfl, rfl⟩
  | some v =>
    rw [hk] at hg
    subst hg
    refine (get_some_calls h1.1 h1.2 k v hk).mono ?_
    rintro e w' ⟨A, c, rfl, -, -, -, rfl⟩
    exact ⟨A, v.length, c, rfl, rfl⟩
set_option maxRecDepth 100000 in
theorem jobs_at (h : AtP W0 N w (Star (TabA gB gF size t) R)) (l : List Int) (n : Nat) (hl : keysT t = l) (hn : l.length = n) :
    Calls Try.prog 32 #[.pointer (some ⟨gB, 0, none⟩)] w fun e w' => ∃ A c, e = .returned (.slice A n c) ∧ kI.C w' A n l ∧ n ≤ c ∧ Below w.heap.size w w' := by
  subst hl
  obtain ⟨own, h1, h2⟩ := h.get
  have HK := Aside0.mk (keys_calls h1.1 h1.2)
  have HN := Aside0.mk hn
  clear h h1 h2 hn
  go_enter Try.func32, Try.ntmps32
  go_wp2_with (first | (go_at_call 52; refine HK.out.mono ?_; rintro e w2 ⟨v, rfl, ho, hb⟩; obtain ⟨A, c, rfl, hlc, hC⟩ := Kd.R_reads ho; have HC := Aside0.mk hC; have HB := Aside0.mk hb; have HLC := Aside0.mk hlc; clear ho hb hC hlc))
  go_ret
  rw [HN.out] at HC HLC
  exact ⟨A, c, by rw [HN.out]; rfl, HC.out, HLC.out, HB.out⟩
set_option maxRecDepth 100000 in
theorem bget_none (h : AtP W0 N w (Star (TabA gB gF size t) R)) (k : Int) (hg : getT t k = none) :
    Calls Try.prog 34 #[.pointer (some ⟨gB, 0, none⟩), .int .i64 k] w fun e w' => ∃ A c, e = .returned (.tuple #[.slice A 0 c, .bool false]) ∧ Below w.heap.size w w' := by
  obtain ⟨own, h1, h2⟩ := h.get
  have HG := Aside0.mk (get_none_calls h1.1 h1.2 k hg)
  clear h h1 h2 hg
  go_enter Try.func34, Try.ntmps34
  go_wp2_with (first
    | (go_at_call 40; refine HG.out.mono ?_; rintro e w2 ⟨rfl, rfl⟩; clear HG)
    | (go_at_call 49; refine (Fc.clone_calls none 0 [] _ (C_nil .u8 w2) (by decide)).mono ?_; rintro e w3 ⟨v, rfl, ho, hb⟩; obtain ⟨A, c, rfl, -, -⟩ := Kd.R_reads ho; have HB := Aside0.mk hb; clear ho hb))
  go_ret2
  exact ⟨A, c, rfl, HB.out⟩
set_option maxRecDepth 100000 in
theorem bget_some (h : AtP W0 N w (Star (TabA gB gF size t) R)) (k : Int) (v : List Int) (n : Nat) (hg : getT t k = some v) (hn : v.length = n) :
    Calls Try.prog 34 #[.pointer (some ⟨gB, 0, none⟩), .int .i64 k] w fun e w' => ∃ A c, e = .returned (.tuple #[.slice A n c, .bool true]) ∧ kU8.C w' A n v ∧ n ≤ c ∧ Below w.heap.size w w' := by
  subst hn
  obtain ⟨own, h1, h2⟩ := h.get
  have hvl := (h1.2.get hg).2
  have HG := Aside0.mk (get_some_calls h1.1 h1.2 k v hg)
  clear h h1 h2 hg
  go_enter Try.func34, Try.ntmps34
  go_wp2_with (first
    | (go_at_call 40; refine HG.out.mono ?_; rintro e w2 ⟨A1, c1, rfl, hc1, hC1, -, rfl⟩; have HC1 := Aside0.mk hC1; clear HG hC1)
    | (go_at_call 49; refine (Fc.clone_calls A1 c1 v _ HC1.out (by omega)).mono ?_; rintro e w3 ⟨u, rfl, ho, hb⟩; obtain ⟨A, c, rfl, hlc, hC⟩ := Kd.R_reads ho; have HB := Aside0.mk hb; have HC := Aside0.mk hC; have HLC := Aside0.mk hlc; clear ho hb hC hlc))
  go_ret2
  exact ⟨A, c, rfl, HC.out, HLC.out, HB.out⟩
set_option maxHeartbeats 2000000 in
set_option maxRecDepth 100000 in
theorem lay_at (h : AtP W0 N w (Star (BookA gB gF room s [] t) R)) (hR : Firm R) (j : Int) (hj0 : -9223372036854775808 ≤ j) (hj1 : j ≤ 9223372036854775807) (A : Option Addr) (n c : Nat) (b : List Int) (hn : b.length = n) (hC : kU8.C w A n b) (hby : By b) (hl : n ≤ 60000) (r : Int) (hr : layR room s t j b = r) :
    Calls Try.prog 45 #[.pointer (some ⟨gB, 0, none⟩), .int .i64 j, .slice A n c] w fun e w' => e = .returned (.int .i64 r) ∧ AtP W0 N w' (Star (BookA gB gF room s (layQ room s t j b) t) R) := by
  have H := Aside0.mk h.first
  have hRF : Firm (Star (FileA gF room s []) R) := FileA.firm.star hR
  have hRT : ∀ z, Firm (Star (TabA gB gF z t) R) := fun z => TabA.firm.star hR
  have hok := H.out.tok
  have HX := Aside0.mk h
  clear h
  by_cases h0 : j < 0
  · have hr2 : r = 2 := by rw [← hr, layR, if_pos (.inl h0)]
    have hq : layQ room s t j b = [] := by rw [layQ, if_neg (by rw [hr, hr2]; decide)]
    have hg : (getT t j).isSome = false := by
      rw [Option.isSome_eq_false_iff, Option.isNone_iff_eq_none]
      exact none_of (fun hm => by have := hok.key j hm; omega)
    have HG := Aside0.mk (t_get H.out j false hg)
    have HQ := Aside0.mk hq
    subst hr2
    clear hok hC hg hq hr
    go_enter Try.func45, Try.ntmps45
    go_wp2_with (first | (go_at_call 40; refine HG.out.mono ?_; rintro e w2 ⟨A1, n1, c1, rfl, rfl⟩; clear HG))
    go_ret
    rw [HQ.out]
    exact ⟨rfl, HX.out⟩
  by_cases h16 : 16 ≤ j
  · have hr2 : r = 2 := by rw [← hr, layR, if_pos (.inr h16)]
    have hq : layQ room s t j b = [] := by rw [layQ, if_neg (by rw [hr, hr2]; decide)]
    have hg : (getT t j).isSome = false := by
      rw [Option.isSome_eq_false_iff, Option.isNone_iff_eq_none]
      exact none_of (fun hm => by have := hok.key j hm; omega)
    have HG := Aside0.mk (t_get H.out j false hg)
    have HQ := Aside0.mk hq
    subst hr2
    clear hok hC hg hq hr
    go_enter Try.func45, Try.ntmps45
    go_wp2_with (first | (go_at_call 40; refine HG.out.mono ?_; rintro e w2 ⟨A1, n1, c1, rfl, rfl⟩; clear HG))
    go_ret
    rw [HQ.out]
    exact ⟨rfl, HX.out⟩
  cases hg : (getT t j).isSome with
  | true =>
    have hr2 : r = 51 := by rw [← hr, layR, if_neg (by omega), if_pos hg]
    have hq : layQ room s t j b = [] := by rw [layQ, if_neg (by rw [hr, hr2]; decide)]
    have HG := Aside0.mk (t_get H.out j true hg)
    have HQ := Aside0.mk hq
    subst hr2
    clear hok hC hg hq hr
    go_enter Try.func45, Try.ntmps45
    go_wp2_with (first | (go_at_call 40; refine HG.out.mono ?_; rintro e w2 ⟨A1, n1, c1, rfl, rfl⟩; clear HG))
    go_ret
    rw [HQ.out]
    exact ⟨rfl, HX.out⟩
  | false =>
    have HG := Aside0.mk (t_get H.out j false hg)
    obtain ⟨rc, hrc⟩ : ∃ rc, recL j b = rc := ⟨_, rfl⟩
    obtain ⟨m, hm⟩ : ∃ m, rc.length = m := ⟨_, rfl⟩
    have hwe : wErr room (over [] s).length (s.length : Int) m = r := by
      rw [← hr, layR, if_neg (by omega), if_neg (by rw [hg]; decide), hrc, hm]
      show (if (s.length : Int) < 0 ∨ (s.length : Int) < s.length then (2 : Int) else if room < s.length + m then 50 else 0) = _
      rw [if_neg (by omega)]
    have hq : wrQ room s [] (s.length : Int) rc = layQ room s t j b := by
      rw [wrQ, layQ, hm, hwe, hr, hrc]
      rfl
    have hrby : By rc := by rw [← hrc]; exact lay_by (by decide) (fun x hx => by
      rcases List.mem_cons.1 hx with rfl | hx
      · omega
      · exact hby x hx)
    have hsl : (s.length : Int) ≤ 4194304 := by
      have h1 := H.out.swap.first.fok
      have := h1.s0; have := h1.r1; omega
    have HQ := Aside0.mk hq
    have HWE := Aside0.mk hwe
    have HM := Aside0.mk hm
    have HRB := Aside0.mk hrby
    have HRE := Aside0.mk (record_calls j (by omega) (by omega) A n c b hn w hC hby hl rc m hrc hm)
    have mixed : Try.prog.follows .mixedOrders = true := by kernel_rfl
    clear hok hC hg hq hr hwe hrby hrc hm hby hn
    go_enter Try.func45, Try.ntmps45
    go_wp2_with (first
      | (go_at_call 40; refine HG.out.mono ?_; rintro e w2 ⟨A1, n1, c1, rfl, rfl⟩; clear HG)
      | (go_at_call 67; refine HRE.out.mono ?_; rintro e w3 ⟨A2, c2, rfl, hC2, hl2, hb2⟩; have HC2 := Aside0.mk hC2; have H3 := Aside0.mk (H.out.below (TabA.firm.star hRF) hb2); clear HRE hC2 hb2 H))
    have HF := Aside0.mk (fun (W : World) (hW : Keep (fun _ => False) w3.drew W) => t_cells ((H3.out.drew (TabA.firm.star hRF)).below (TabA.firm.star hRF) (hW.below (Nat.le_refl _) (fun _ _ => id))))
    refine re_start [9] (fun _ => False) (by kernel_rfl) (n := 11) (l := #[false, false, false, false, false, false, false, false, false, false, false]) (by kernel_rfl) (by kernel_rfl) ?_
    refine re_take (fuel := 10) 0 rfl (by kernel_rfl) (listed' := #[true, false, false, false, false, false, false, false, false, false, false]) (by kernel_rfl) (fun _ _ _ h => h) (by kernel_rfl) (fun w' hR => by go_simp; first | done | with_reducible rfl) rfl ?_
    try simp only [Act.put, List.setIfInBounds_toArray, List.set_cons_zero, List.set_cons_succ]
    refine re_take (fuel := 9) 1 rfl (by kernel_rfl) (listed' := #[true, true, false, false, false, false, false, false, false, false, false]) (by kernel_rfl) (fun _ _ _ h => h) (by kernel_rfl) (fun w' hR => by go_simp; first | done | with_reducible rfl) rfl ?_
    try simp only [Act.put, List.setIfInBounds_toArray, List.set_cons_zero, List.set_cons_succ]
    refine re_take (fuel := 8) 2 rfl (by kernel_rfl) (listed' := #[true, true, true, false, false, false, false, false, false, false, false]) (by kernel_rfl) (fun _ _ _ h => h) (by kernel_rfl) (fun w' hR => by go_simp; first | done | with_reducible rfl) rfl ?_
    try simp only [Act.put, List.setIfInBounds_toArray, List.set_cons_zero, List.set_cons_succ]
    refine re_take (fuel := 7) 3 rfl (by kernel_rfl) (listed' := #[true, true, true, true, false, false, false, false, false, false, false]) (by kernel_rfl) (fun _ _ _ h => h) (by kernel_rfl) (fun w' hR => by have x0 := (HF.out w' hR).1; go_simp; first | done | with_reducible rfl) rfl ?_
    try simp only [Act.put, List.setIfInBounds_toArray, List.set_cons_zero, List.set_cons_succ]
    refine re_take (fuel := 6) 4 rfl (by kernel_rfl) (listed' := #[true, true, true, true, true, false, false, false, false, false, false]) (by kernel_rfl) (fun _ _ _ h => h) (by kernel_rfl) (fun w' hR => by go_simp; first | done | with_reducible rfl) rfl ?_
    try simp only [Act.put, List.setIfInBounds_toArray, List.set_cons_zero, List.set_cons_succ]
    refine re_take (fuel := 5) 5 rfl (by kernel_rfl) (listed' := #[true, true, true, true, true, true, false, false, false, false, false]) (by kernel_rfl) (fun _ _ _ h => h) (by kernel_rfl) (fun w' hR => by go_simp; first | done | with_reducible rfl) rfl ?_
    try simp only [Act.put, List.setIfInBounds_toArray, List.set_cons_zero, List.set_cons_succ]
    refine re_take (fuel := 4) 6 rfl (by kernel_rfl) (listed' := #[true, true, true, true, true, true, true, false, false, false, false]) (by kernel_rfl) (fun _ _ _ h => h) (by kernel_rfl) (fun w' hR => by go_simp; first | done | with_reducible rfl) rfl ?_
    try simp only [Act.put, List.setIfInBounds_toArray, List.set_cons_zero, List.set_cons_succ]
    refine re_take (fuel := 3) 7 rfl (by kernel_rfl) (listed' := #[true, true, true, true, true, true, true, true, false, false, false]) (by kernel_rfl) (fun _ _ _ h => h) (by kernel_rfl) (fun w' hR => by have x0 := (HF.out w' hR).2.1; go_simp; first | done | with_reducible rfl) rfl ?_
    try simp only [Act.put, List.setIfInBounds_toArray, List.set_cons_zero, List.set_cons_succ]
    refine re_take (fuel := 2) 8 rfl (by kernel_rfl) (listed' := #[true, true, true, true, true, true, true, true, true, false, false]) (by kernel_rfl) (fun _ _ _ h => h) (by kernel_rfl) (fun w' hR => by go_simp; first | done | with_reducible rfl) rfl ?_
    try simp only [Act.put, List.setIfInBounds_toArray, List.set_cons_zero, List.set_cons_succ]
    refine re_free (fuel := 1) 9 rfl (by kernel_rfl) (listed' := #[true, true, true, true, true, true, true, true, true, true, false]) (by kernel_rfl) (by kernel_rfl) (fun K' hK => ?_)
    go_wp2_with (first | (go_at_call 30; refine (f_write (w1 := w3) H3.out.unfirst.second (Below.refl _ _).drew (hRT _) (by decide) s.length (by omega) (by omega) A2 m c2 rc HM.out (Kd.C_drew HC2.out) HRB.out r HWE.out).mono ?_; rintro e w4 ⟨rfl, h4⟩; rw [HQ.out] at h4; have H4 := Aside0.mk h4.unsecond; clear h4))
    refine hK.out _ _ trivial ?_
    clear hK K'
    try simp only [Act.put, List.setIfInBounds_toArray, List.set_cons_zero, List.set_cons_succ]
    refine re_any (fuel := 0) 10 rfl (by kernel_rfl) (listed' := #[true, true, true, true, true, true, true, true, true, true, true]) (by kernel_rfl) (fun _ _ _ h => h) (by kernel_rfl) (fun w' => by skip; go_simp; first | done | with_reducible rfl) rfl ?_
    try simp only [Act.put, List.setIfInBounds_toArray, List.set_cons_zero, List.set_cons_succ]
    refine re_done (by kernel_rfl) ?_
    go_wp2
    go_ret
    exact ⟨rfl, H4.out⟩
end
end Go.Proofs.Ytfcpnjoiloahcaa.Bk
namespace Go.Proofs.Ytfcpnjoiloahcaa.Bk
open Go.RowKit Go.Proofs.YtfcpnjoiloahcaaW.PrintWords Go.Proofs.YtfcpnjoiloahcaaW.PrintLast Go.Proofs.YtfcpnjoiloahcaaW.PrintMore Go.Proofs.Ytfcpnjoiloahcaa.B Go.Proofs.Ytfcpnjoiloahcaa.Ta Go.Proofs.Ytfcpnjoiloahcaa.Fs Go.Proofs.Ytfcpnjoiloahcaa.Sp Go.Proofs.Ytfcpnjoiloahcaa.Ls Go.Proofs.Ytfcpnjoiloahcaa.Gs Go.Proofs.Ytfcpnjoiloahcaa.Go1 Go.Proofs.Ytfcpnjoiloahcaa.S Go.Proofs.Ytfcpnjoiloahcaa.R
set_option linter.unusedVariables false
set_option linter.unusedSimpArgs false
section
variable {W0 w w1 : World} {N : Nat → Prop} {R : Assn} {g gB gF : Nat} {room size : Int} {s s' : List Int} {q : List (Int × List Int)} {t t' : Tab}
set_option maxRecDepth 100000 in
theorem begin_at (h : AtP W0 N w1 (Star (BookA gB gF room s [] t) R)) (hb : Below w1.heap.size w1 w) (hR : Firm R) (j : Int) (hj0 : -9223372036854775808 ≤ j) (hj1 : j ≤ 9223372036854775807) (A : Option Addr) (n c : Nat) (b : List Int) (hn : b.length = n) (hC : kU8.C w A n b) (hby : By b) (hl : n ≤ 60000) (r : Int) (hr : layR room s t j b = r) (q : List (Int × List Int)) (hq : layQ room s t j b = q) :
    Calls Try.prog 19 #[.pointer (some ⟨gB, 0, none⟩), .int .i64 j, .slice A n c] w fun e w' => e = .returned (.int .i64 r) ∧ AtP W0 N w' (Star (BookA gB gF room s q t) R) := by
  subst hq
  have HL := Aside0.mk (lay_at (h.below (BookA.firm.star hR) hb) hR j hj0 hj1 A n c b hn hC hby hl r hr)
  clear h hC hr
  go_enter Try.func19, Try.ntmps19
  go_wp2_with (first | (go_at_call 45; refine HL.out.mono ?_; rintro e w2 ⟨rfl, h2⟩; have H2 := Aside0.mk h2; clear h2))
  go_ret
  exact ⟨rfl, H2.out⟩
set_option maxRecDepth 100000 in
theorem commit_no (h : AtP W0 N w1 (Star (BookA gB gF room s [] t) R)) (hb : Below w1.heap.size w1 w) (hR : Firm R) (j : Int) (hj0 : -9223372036854775808 ≤ j) (hj1 : j ≤ 9223372036854775807) (A : Option Addr) (n c : Nat) (b : List Int) (hn : b.length = n) (hC : kU8.C w A n b) (hby : By b) (hl : n ≤ 60000) (r : Int) (hr : layR room s t j b = r) (hr0 : r ≠ 0) :
    Calls Try.prog 23 #[.pointer (some ⟨gB, 0, none⟩), .int .i64 j, .slice A n c] w fun e w' => e = .returned (.int .i64 r) ∧ AtP W0 N w' (Star (BookA gB gF room s [] t) R) := by
  have HL := Aside0.mk (lay_at (h.below (BookA.firm.star hR) hb) hR j hj0 hj1 A n c b hn hC hby hl r hr)
  have HQ := Aside0.mk (show layQ room s t j b = [] by rw [layQ, if_neg (by rw [hr]; exact hr0)])
  have hrb : (r != 0) = true := bne_iff_ne.mpr hr0
  clear h hC hr
  go_enter Try.func23, Try.ntmps23
  go_wp2_with (first | (go_at_call 45; refine HL.out.mono ?_; rintro e w2 ⟨rfl, h2⟩; rw [HQ.out] at h2; have H2 := Aside0.mk h2; clear h2))
  go_ret
  exact ⟨rfl, H2.out⟩
set_option maxHeartbeats 2000000 in
set_option maxRecDepth 100000 in
theorem commit_yes (h : AtP W0 N w1 (Star (BookA gB gF room s [] t) R)) (hb : Below w1.heap.size w1 w) (hR : Firm R) (j : Int) (hj0 : -9223372036854775808 ≤ j) (hj1 : j ≤ 9223372036854775807) (A : Option Addr) (n c : Nat) (b : List Int) (hn : b.length = n) (hC : kU8.C w A n b) (hA : ∀ a, A = some a → 0 < n → (w1.heap.size ≤ a.block ∨ ¬ N a.block ∧ a.block < W0.heap.size) ∧ a.block < w.heap.size) (hby : By b) (hl : n ≤ 60000) (hr : layR room s t j b = 0) (hs : s ++ recL j b = s') (ht : putT t j b = t') :
    Calls Try.prog 23 #[.pointer (some ⟨gB, 0, none⟩), .int .i64 j, .slice A n c] w fun e w' => e = .returned (.int .i64 0) ∧ AtP W0 N w' (Star (BookA gB gF room s' [] t') R) := by
  subst hn
  subst ht
  obtain ⟨N', hN'⟩ : ∃ N' : Nat → Prop, N' = fun k => (N k ∨ W0.heap.size ≤ k) ∧ k < w1.heap.size := ⟨_, rfl⟩
  have hAN : ∀ a, A = some a → 0 < b.length → ¬ N' a.block ∧ a.block < w.heap.size := fun a ha h0 => ⟨fun hx => by
    rw [hN'] at hx
    rcases (hA a ha h0).1 with h1 | ⟨h1, h2⟩
    · omega
    · rcases hx.1 with h3 | h3
      · exact h1 h3
      · omega, (hA a ha h0).2⟩
  have hCW : ∀ W, Keep N' w W → kU8.C W A b.length b := fun W hW => by
    rcases Nat.eq_zero_or_pos b.length with h0 | h0
    · exact ⟨rfl, hC.2.1, fun h => absurd h (by omega)⟩
    · exact C_blk hC (fun a ha => hW.block _ (hAN a ha h0).2 (hAN a ha h0).1)
  have h' : AtP w N' w (Star (BookA gB gF room s [] t) R) := by rw [hN']; exact h.rebase (BookA.firm.star hR) hb
  have HBACK := Aside0.mk (show ∀ W (P : Assn), AtP w N' W P → AtP W0 N W P from fun W P hx => hx.back (fun k hk => by rw [hN'] at hk; exact hk.1) (h.keep.trans (Keep.of_below hb)))
  have hjr : ¬ (j < 0 ∨ 16 ≤ j) ∧ (getT t j).isSome = false := by
    unfold layR at hr
    split at hr
    · omega
    · rename_i h1
      split at hr
      · omega
      · rename_i h2
        exact ⟨h1, by simpa using h2⟩
  have hg : getT t j = none := by simpa using hjr.2
  have hj2 : 0 ≤ j ∧ j < 16 := by have := hjr.1; omega
  have hql : layQ room s t j b = [((s.length : Int), recL j b)] := if_pos hr
  have HL := Aside0.mk (lay_at h' hR j hj0 hj1 A b.length c b rfl hC hby hl 0 hr)
  rw [hql] at HL
  have HOV := Aside0.mk (show over [((s.length : Int), recL j b)] s = s' by
    rw [← hs]
    show laid s ((s.length : Int)).toNat (recL j b) = _
    rw [Int.toNat_natCast, laid_end])
  have HCW := Aside0.mk hCW
  have HG := Aside0.mk hg
  have HBY := Aside0.mk hby
  have hRT : ∀ z, Firm (Star (TabA gB gF z t) R) := fun z => TabA.firm.star hR
  have hRF : Firm (Star (FileA gF room s' []) R) := FileA.firm.star hR
  have mixed : Try.prog.follows .mixedOrders = true := by kernel_rfl
  clear h h' hC hA hAN hCW hN' hjr hg hql hby hs hr
  go_enter Try.func23, Try.ntmps23
  go_wp2_with (first
    | (go_at_call 45; refine HL.out.mono ?_; rintro e w2 ⟨rfl, h2⟩; have x0 := (t_cells h2.first).1; have H2 := Aside0.mk h2; clear h2 HL)
    | (go_at_call 31; refine (f_sync H2.out.second (hRT _) s' HOV.out).mono ?_; rintro e w3 ⟨rfl, h3⟩; obtain ⟨x0, x1, x2⟩ := t_cells h3.unsecond.first; have H3 := Aside0.mk h3.unsecond; clear h3 H2)
    | (go_at_call 28; refine (f_sure H3.out.second).mono ?_; rintro e w4 ⟨rfl, rfl⟩))
  have H5 := Aside0.mk (t_size H3.out.first hRF s'.length)
  obtain ⟨W5, hW5⟩ : ∃ W5, W5 = w3.setCell ⟨gB, 1, none⟩ (.int .i64 s'.length) := ⟨_, rfl⟩
  rw [← hW5] at H5
  rw [← hW5]
  clear hW5 x0 x1 x2
  refine re_start [6] (fun _ => False) (by kernel_rfl) (n := 7) (l := #[false, false, false, false, false, false, false]) (by kernel_rfl) (by kernel_rfl) ?_
  refine re_take (fuel := 6) 0 rfl (by kernel_rfl) (listed' := #[true, false, false, false, false, false, false]) (by kernel_rfl) (fun _ _ _ h => h) (by kernel_rfl) (fun w' hR => by go_simp; first | done | with_reducible rfl) rfl ?_
  try simp only [Act.put, List.setIfInBounds_toArray, List.set_cons_zero, List.set_cons_succ]
  refine re_take (fuel := 5) 1 rfl (by kernel_rfl) (listed' := #[true, true, false, false, false, false, false]) (by kernel_rfl) (fun _ _ _ h => h) (by kernel_rfl) (fun w' hR => by go_simp; first | done | with_reducible rfl) rfl ?_
  try simp only [Act.put, List.setIfInBounds_toArray, List.set_cons_zero, List.set_cons_succ]
  refine re_take (fuel := 4) 2 rfl (by kernel_rfl) (listed' := #[true, true, true, false, false, false, false]) (by kernel_rfl) (fun _ _ _ h => h) (by kernel_rfl) (fun w' hR => by go_simp; first | done | with_reducible rfl) rfl ?_
  try simp only [Act.put, List.setIfInBounds_toArray, List.set_cons_zero, List.set_cons_succ]
  refine re_take (fuel := 3) 3 rfl (by kernel_rfl) (listed' := #[true, true, true, true, false, false, false]) (by kernel_rfl) (fun _ _ _ h => h) (by kernel_rfl) (fun w' hR => by go_simp; first | done | with_reducible rfl) rfl ?_
  try simp only [Act.put, List.setIfInBounds_toArray, List.set_cons_zero, List.set_cons_succ]
  refine re_take (fuel := 2) 4 rfl (by kernel_rfl) (listed' := #[true, true, true, true, true, false, false]) (by kernel_rfl) (fun _ _ _ h => h) (by kernel_rfl) (fun w' hR => by go_simp; first | done | with_reducible rfl) rfl ?_
  try simp only [Act.put, List.setIfInBounds_toArray, List.set_cons_zero, List.set_cons_succ]
  refine re_step (fuel := 1) 5 rfl (by kernel_rfl) (listed' := #[true, true, true, true, true, true, false]) (by kernel_rfl) (by kernel_rfl) (fun K' hK => ?_)
  go_wp2_with (first | (go_at_call 49; refine (Fc.clone_calls A c b _ (HCW.out _ H5.out.keep.drew) (by omega)).mono ?_; rintro e w6 ⟨u, rfl, ho, hb6⟩; obtain ⟨A6, c6, rfl, hl6, hC6⟩ := Kd.R_reads ho; have HA6 := Aside0.mk (fun a (ha : A6 = some a) => R_at (a := a) (by rw [← ha]; exact ho)); have HC6 := Aside0.mk hC6; have HB6 := Aside0.mk hb6; clear ho hC6 hb6))
  refine hK.out _ _ (Keep.of_below HB6.out) ?_
  clear hK K'
  try simp only [Act.put, List.setIfInBounds_toArray, List.set_cons_zero, List.set_cons_succ]
  refine re_free (fuel := 0) 6 rfl (by kernel_rfl) (listed' := #[true, true, true, true, true, true, true]) (by kernel_rfl) (by kernel_rfl) (fun K' hK => ?_)
  go_wp2_with (first | (go_at_call 41; refine (t_put (w1 := W5.drew) (H5.out.drew (TabA.firm.star hRF)) HB6.out hRF j HG.out hj2.1 hj2.2 b A6 b.length c6 rfl HC6.out hl6 HBY.out (by omega) (fun a ha => HA6.out a ha)).mono ?_; rintro e w7 ⟨rfl, h7⟩; have H7 := Aside0.mk h7; clear h7))
  refine hK.out _ _ trivial ?_
  clear hK K'
  try simp only [Act.put, List.setIfInBounds_toArray, List.set_cons_zero, List.set_cons_succ]
  refine re_done (by kernel_rfl) ?_
  go_wp2
  go_ret
  exact ⟨rfl, HBACK.out _ _ H7.out.unfirst⟩
end
end Go.Proofs.Ytfcpnjoiloahcaa.Bk
namespace Go.Proofs.Ytfcpnjoiloahcaa.Bk
open Go.RowKit Go.Proofs.YtfcpnjoiloahcaaW.PrintWords Go.Proofs.YtfcpnjoiloahcaaW.PrintLast Go.Proofs.YtfcpnjoiloahcaaW.PrintMore Go.Proofs.Ytfcpnjoiloahcaa.B Go.Proofs.Ytfcpnjoiloahcaa.Ta Go.Proofs.Ytfcpnjoiloahcaa.Fs Go.Proofs.Ytfcpnjoiloahcaa.Sp Go.Proofs.Ytfcpnjoiloahcaa.Ls Go.Proofs.Ytfcpnjoiloahcaa.Gs Go.Proofs.Ytfcpnjoiloahcaa.Go1 Go.Proofs.Ytfcpnjoiloahcaa.S Go.Proofs.Ytfcpnjoiloahcaa.R
set_option linter.unusedVariables false
set_option linter.unusedSimpArgs false
/-- The table that frames come to, and how long what it holds is. -/
def openL : List (Int × List Int) → Tab → Nat → Tab × Nat
  | [], t, n => (t, n)
  | (k, b) :: l, t, n => if k = 1 ∧ (below 16 b 0).2.2 = 0 ∧ getT t (below 16 b 0).1 = none then openL l (putT t (below 16 b 0).1 (below 16 b 0).2.1) (n + (layL k b).length) else (t, n)
def Opened (b : List Int) (t : Tab) (n : Nat) : Prop := ∃ l m, AllR b l m ∧ openL l [] 0 = (t, n)
theorem Opened.same {b : List Int} {t t' : Tab} {n n' : Nat} (h : Opened b t n) (h' : Opened b t' n') : t = t' ∧ n = n' := by
  obtain ⟨l, m, h1, h2⟩ := h
  obtain ⟨l', m', h3, h4⟩ := h'
  obtain ⟨rfl, rfl⟩ := h1.same h3
  rw [h2, Prod.mk.injEq] at h4
  exact h4
/-- Of frames that were made: one of them. -/
theorem F_own {tw : Nat} {w : World} {S2 : Nat → Prop} {A2 : Option Addr} {n c2 : Nat} {q : List (Int × List Int)} (h : kF.R tw w 0 S2 (.slice A2 n c2) q) {j : Nat} {i : Int} {c : List Int} (hj : q[j]? = some (i, c)) :
    ∃ (ad : Addr) (A : Option Addr) (c' : Nat), A2 = some ad ∧ S2 ad.block ∧ ad.block < w.heap.size ∧ w.cell? (ad.add (j * 2)) = some (.int .u8 i) ∧ w.cell? ⟨(ad.add (j * 2)).block, (ad.add (j * 2)).off + 1, none⟩ = some (.slice A c.length c') ∧ c.length ≤ c' ∧ kU8.C w A c.length c ∧ ∀ a, A = some a → S2 a.block ∧ a.block < w.heap.size := by
  obtain ⟨ad, cs, rfl, h1, h2, h3, ⟨c0, c1, rfl, hk0, v, rfl, hR⟩, h4⟩ := R_get h hj
  have hk : c0 = [.int .u8 i] := hk0
  subst hk
  have hR' : kU8.R 5 w 0 (fun k => S2 k ∧ k ≠ ad.block ∧ k < w.heap.size) v c := hR
  obtain ⟨A, c', rfl, hl, hC⟩ := Kd.R_reads hR'
  have g0 := h4 0 (.int .u8 i) rfl
  have g1 := h4 1 (.slice A c.length c') rfl
  have hs : kF.sz = 2 := rfl
  rw [hs] at g0 g1
  rw [← Go.Proofs.YtfcpnjoiloahcaaW.PrintWords.add_add] at g1
  refine ⟨ad, A, c', rfl, h1, h2, g0, g1, hl, hC, fun a ha => ?_⟩
  have := hR'.1 a.block (by rw [ha]; rfl)
  exact ⟨this.1, this.2.2⟩
theorem openL_stop {l : List (Int × List Int)} {k j cd : Int} {b rest : List Int} {t : Tab} {n : Nat} (hb : below 16 b 0 = (j, rest, cd)) (h : ¬ (k = 1 ∧ cd = 0 ∧ getT t j = none)) : openL ((k, b) :: l) t n = (t, n) := by
  rw [openL, hb, if_neg h]
theorem openL_go {l : List (Int × List Int)} {k j cd : Int} {b rest : List Int} {t : Tab} {n : Nat} (hb : below 16 b 0 = (j, rest, cd)) (h : k = 1 ∧ cd = 0 ∧ getT t j = none) : openL ((k, b) :: l) t n = openL l (putT t j rest) (n + (layL k b).length) := by
  rw [openL, hb, if_pos h]
section
variable {W0 w w1 : World} {N : Nat → Prop} {R : Assn} {g gB gF : Nat} {room size : Int} {s s' : List Int} {q : List (Int × List Int)} {t t' : Tab}
set_option maxHeartbeats 4000000 in
set_option maxRecDepth 100000 in
theorem open_at (h : AtP W0 N w (Star (FileA gF room s q) R)) (hR : Firm R) (b : List Int) (nb : Nat) (hb : over q s = b) (hnb : b.length = nb) (hlen : nb ≤ 1000000) :
    Calls Try.prog 17 #[.pointer (some ⟨gF, 0, none⟩)] w fun e w' => ∃ gB T n, e = .returned (.tuple #[.pointer (some ⟨gB, 0, none⟩), .int .i64 0]) ∧ Opened b T n ∧ n ≤ nb ∧ AtP W0 N w' (Star (BookA gB gF room (b.take n) [] T) R) := by
  obtain ⟨W2, hW2⟩ : ∃ W2, W2 = w.alloc (.cells #[.pointer (some ⟨gF, 0, none⟩), .int .i64 0, .slice none 0 0, .slice none 0 0] 84) := ⟨_, rfl⟩
  have hRF : Firm (Star (FileA gF room s q) R) := FileA.firm.star hR
  have hRT : ∀ z t, Firm (Star (TabA w.heap.size gF z t) R) := fun z t => TabA.firm.star hR
  have hFT : ∀ z t, Firm (Star (TabA w.heap.size gF z t) (Star (FileA gF room s q) R)) := fun z t => TabA.firm.star hRF
  have hb2 : Below w.heap.size w W2 := by rw [hW2]; exact (Below.refl _ _).alloc (Nat.le_refl _) _
  have h2 : AtP W0 N W2 (Star (TabA w.heap.size gF 0 []) (Star (FileA gF room s q) R)) := h.more hRF hb2 (o1 := fun k => k = w.heap.size) (by rw [hW2]; exact ⟨TabP.made _ w, TOk.nil⟩) (fun k hk => by omega)
  have hok := h.fok
  have hby : By b := by rw [← hb]; exact hok.all.2
  obtain ⟨gB, hgB⟩ : ∃ gB, gB = w.heap.size := ⟨_, rfl⟩
  rw [← hgB] at h2 hRT hFT
  have HBE := Aside0.mk hb
  have H2 := Aside0.mk h2
  have HBY := Aside0.mk hby
  have HNB := Aside0.mk hnb
  have HB2 := Aside0.mk hb2
  clear h h2 hok hby hb hnb hb2
  go_enter Try.func17, Try.ntmps17
  go_wp2_with (first
    | (go_at_call 26; rw [← hW2, ← hgB]; clear hW2 hgB; refine (f_bytes H2.out.unfirst.second b nb HBE.out HNB.out).mono ?_; rintro e w3 ⟨A3, c3, rfl, hC3, hl3, -, hb3⟩; have HC3 := Aside0.mk hC3; have HB3 := Aside0.mk hb3; clear hC3 hb3)
    | (go_at_call 12; refine (Gc.all_calls A3 c3 b nb HNB.out w3 HC3.out hl3 HBY.out hlen).mono ?_; rintro e w4 ⟨v4, l, m, rfl, hall, hlm, hr4, hb4⟩; obtain ⟨A4, c4, rfl, hl4, -⟩ := Kd.R_reads hr4; have HALL := Aside0.mk hall; have HR4 := Aside0.mk hr4; have HB4 := Aside0.mk hb4; clear hr4 hb4 hall HC3))
  obtain ⟨N', hN'⟩ : ∃ N' : Nat → Prop, N' = fun k => (N k ∨ W0.heap.size ≤ k) ∧ k < W2.heap.size := ⟨_, rfl⟩
  have HBW := Aside0.mk (HB3.out.trans (HB4.out.mono HB3.out.size))
  have HI := Aside0.mk (show AtP w4 N' w4 (Star (TabA gB gF (0 : Nat) []) (Star (FileA gF room s q) R)) by rw [hN']; exact H2.out.rebase (hFT _ _) HBW.out)
  have HBACK := Aside0.mk (show ∀ W (P : Assn), AtP w4 N' W P → AtP W0 N W P from fun W P hx => hx.back (fun k hk => by rw [hN'] at hk; exact hk.1) (H2.out.keep.trans (Keep.of_below HBW.out)))
  have HNN := Aside0.mk (show ∀ k, w3.heap.size ≤ k → ¬ N' k from fun k hk hn => by rw [hN'] at hn; have := hn.2; have := HB3.out.size; omega)
  have HFW := Aside0.mk (show ∀ W, Keep N' w4 W → kF.C W A4 l.length l from fun W hW => by
    obtain ⟨A9, c9, e9, -, h9⟩ := Kd.R_reads (Kd.R_step (w1 := W) (Kd.R_mono (ok' := fun k => w3.heap.size ≤ k) (Kd.R_bound HR4.out) (fun k hk => hk.2.1)) (fun k hk hl => hW.block k hl (HNN.out k hk)))
    injection e9 with e9 _ _
    subst e9
    exact h9)
  have HLY := Aside0.mk (HALL.out.lays HBY.out)
  have hmb : m ≤ nb := by have := HLY.out.2.1; rwa [HNB.out] at this
  have HO0 := Aside0.mk (show openL (l.drop 0) [] 0 = openL l [] 0 from rfl)
  have HN0 := Aside0.mk (show 0 + (laysL (l.drop 0)).length ≤ nb by
    rw [List.drop_zero, HLY.out.1, List.length_take, HNB.out]; omega)
  clear hN'
  go_loopw [29] (fun vi wr => ∃ (i : Nat) (T : Tab) (n : Nat), i ≤ l.length ∧ vi = .int .i64 i ∧ Aside0 (AtP w4 N' wr (Star (TabA gB gF (n : Int) T) (Star (FileA gF room s q) R))) ∧ Aside0 (openL (l.drop i) T n = openL l [] 0) ∧ Aside0 (n + (laysL (l.drop i)).length ≤ nb)) (fun vi _ => l.length - (intOf vi).toNat)
  case atStart => exact ⟨0, [], 0, by omega, rfl, HI, HO0, HN0⟩
  case round =>
    clear HI HO0 HN0
    obtain ⟨i, T, n, hi, rfl, H, HO, HN⟩ := hrel
    by_cases hlt : i < l.length
    · obtain ⟨⟨k, bd⟩, hp⟩ : ∃ p, l[i]? = some p := ⟨_, List.getElem?_eq_getElem hlt⟩
      obtain ⟨ad, A5, c5, rfl, hs5, hs5', g1, g2, hcc, hCb, hA5⟩ := F_own (Kd.R_lower (Kd.R_mono (ok' := fun k => w3.heap.size ≤ k) (Kd.R_bound HR4.out) (fun k hk => hk.2.1)) (Nat.zero_le _)) hp
      have HFG := Aside0.mk (show ∀ W, Keep N' w4 W → W.cell? (ad.add (i * 2)) = some (.int .u8 k) ∧ W.cell? ⟨(ad.add (i * 2)).block, (ad.add (i * 2)).off + 1, none⟩ = some (.slice A5 bd.length c5) ∧ kU8.C W A5 bd.length bd from fun W hW => by
        have hbk : (ad.add (i * 2)).block = ad.block := B.add_block _ _
        have hh := hW.block ad.block hs5' (HNN.out _ hs5)
        exact ⟨(World.cell?_of_block (by rw [hbk]; exact hh)).trans g1, (World.cell?_of_block (a := ⟨(ad.add (i * 2)).block, (ad.add (i * 2)).off + 1, none⟩) (by show W.heap[(ad.add (i * 2)).block]? = _; rw [hbk]; exact hh)).trans g2, C_blk hCb (fun a ha => hW.block _ (hA5 a ha).2 (HNN.out _ (hA5 a ha).1))⟩)
      obtain ⟨q1, q2, -⟩ := HFG.out wr H.out.keep
      obtain ⟨⟨hk0, hk1⟩, hbdy, hbdl⟩ := HLY.out.2.2 _ (List.mem_of_getElem? hp)
      simp only at hk0 hk1 hbdy hbdl
      obtain ⟨j, rest, cd, hbe⟩ : ∃ j rest cd, below 16 bd 0 = (j, rest, cd) := ⟨_, _, _, rfl⟩
      obtain ⟨hj0, hj1, hrl, hrb⟩ := rd_range hbdy hbe
      have hdrop : l.drop i = (k, bd) :: l.drop (i + 1) := by
        obtain ⟨h1, h2⟩ := List.getElem?_eq_some_iff.1 hp
        rw [List.drop_eq_getElem_cons h1, h2]
      obtain ⟨W5, hW5⟩ : ∃ W5, W5 = wr.alloc (.cells #[.int .u8 k, .slice A5 bd.length c5] 27) := ⟨_, rfl⟩
      have hb5 : Below wr.heap.size wr W5 := by rw [hW5]; exact (Below.refl _ _).alloc (Nat.le_refl _) _
      have hn5 : W5.heap[wr.heap.size]? = some (.cells #[.int .u8 k, .slice A5 bd.length c5] 27 (0, 0)) := by rw [hW5]; exact heap_alloc_new _ _
      obtain ⟨N2, hN2⟩ : ∃ N2 : Nat → Prop, N2 = fun k => (N' k ∨ w4.heap.size ≤ k) ∧ k < wr.heap.size := ⟨_, rfl⟩
      have H5 := Aside0.mk (show AtP W5 N2 W5 (Star (TabA gB gF (n : Int) T) (Star (FileA gF room s q) R)) by rw [hN2]; exact H.out.rebase (hFT _ _) hb5)
      have HBK2 := Aside0.mk (show ∀ W (P : Assn), AtP W5 N2 W P → AtP w4 N' W P from fun W P hx => hx.back (fun k hk => by rw [hN2] at hk; exact hk.1) (H.out.keep.trans (Keep.of_below hb5)))
      have HX8 := Aside0.mk (show ∀ W, Keep N2 W5 W → W.cell? ⟨wr.heap.size, 0, none⟩ = some (.int .u8 k) ∧ W.cell? ⟨wr.heap.size, 1, none⟩ = some (.slice A5 bd.length c5) from fun W hW => by
        have hh := (hW.block wr.heap.size (blk_lt hn5) (fun hx => by rw [hN2] at hx; have := hx.2; omega)).trans hn5
        exact ⟨by simp [World.cell?, hh], by simp [World.cell?, hh]⟩)
      have HBE2 := Aside0.mk hbe
      have HDR := Aside0.mk hdrop
      have HBDY := Aside0.mk hbdy
      have HRB := Aside0.mk hrb
      have HC5 := Aside0.mk (HFG.out W5 (HBK2.out _ _ H5.out).keep).2.2
      clear g1 g2 hCb hA5 hp hbdy hrb hbe hdrop hb5 hn5 hN2 hs5 hs5' HR4
      by_cases hst : k = 1 ∧ cd = 0 ∧ getT T j = none
      · obtain ⟨hk, hcd, hgt⟩ := hst
        subst hk hcd
        have HO2 := Aside0.mk (show openL (l.drop (i + 1)) (putT T j rest) (n + (layL 1 bd).length) = openL l [] 0 by
          rw [← openL_go HBE2.out ⟨rfl, rfl, hgt⟩, ← HDR.out]; exact HO.out)
        have hLn : n + (layL 1 bd).length + (laysL (l.drop (i + 1))).length ≤ nb := by
          have h := HN.out
          rw [HDR.out, laysL, List.map_cons, List.flatten_cons, List.length_append] at h
          unfold laysL
          have h2 : n + ((layL 1 bd).length + (List.map (fun p => layL p.1 p.2) (List.drop (i + 1) l)).flatten.length) ≤ nb := h
          omega
        obtain ⟨L, hL⟩ : ∃ L, (layL 1 bd).length = L := ⟨_, rfl⟩
        rw [hL] at hLn HO2
        have HL := Aside0.mk hL
        have HGT := Aside0.mk hgt
        have y1 := wrI64 ((n : Int) + (L : Int)) (by omega) (by omega)
        clear hgt hL
        go_wp2_with (first
          | (go_at_call 39; rw [← hW5]; clear hW5; refine (read_calls 1 A5 bd.length c5 bd rfl W5 HC5.out HBDY.out (by omega) j rest 0 HBE2.out rest (if_pos rfl) true rfl).mono ?_; rintro e w6 ⟨A6, c6, rfl, hC6, hl6, hA6, hb6⟩; have HC6 := Aside0.mk hC6; have HA6 := Aside0.mk hA6; have HB6 := Aside0.mk hb6; have H6 := Aside0.mk (H5.out.below (hFT _ _) hb6); clear hC6 hA6 hb6)
          | (go_at_call 40; refine (t_get H6.out j false (by rw [HGT.out]; rfl)).mono ?_; rintro e w7 ⟨A7, n7, c7, rfl, rfl⟩)
          | (go_at_call 41; refine (t_put (w1 := W5) H5.out HB6.out hRF j HGT.out hj0 hj1 rest A6 rest.length c6 rfl HC6.out hl6 HRB.out (by omega) HA6.out).mono ?_; rintro e w8 ⟨rfl, h8⟩; obtain ⟨x8, x9⟩ := HX8.out w8 h8.keep; have H8 := Aside0.mk h8; clear h8 H6)
          | (go_at_call 35; refine (Gc.lay_n 1 (by decide) (by decide) A5 c5 bd bd.length rfl (layL 1 bd) L rfl HL.out w8 (HFG.out w8 (HBK2.out _ _ H8.out).keep).2.2 hcc HBDY.out (by omega)).mono ?_; rintro e w9 ⟨A9, c9, rfl, -, -, -, hb9⟩; have H9 := Aside0.mk (H8.out.below (hFT _ _) hb9); clear hb9 H8 x8 x9; obtain ⟨-, x1, x2⟩ := t_cells H9.out))
        have H10 := Aside0.mk (HBK2.out _ _ (t_size H9.out hRF ((n : Int) + (L : Int))))
        go_roundw
        case rel =>
          refine ⟨i + 1, putT T j rest, n + L, by omega, by go_num, ⟨?_⟩, HO2, ⟨hLn⟩⟩
          have h := H10.out
          rw [show ((n : Int) + (L : Int)) = ((n + L : Nat) : Int) by omega] at h
          exact h
        case measure => simp [intOf]; omega
      · have HST := Aside0.mk (show openL (l.drop i) T n = (T, n) by rw [HDR.out]; exact openL_stop HBE2.out hst)
        have hnb2 : n ≤ nb := by have := HN.out; omega
        obtain ⟨d, hd⟩ : ∃ d, (if cd = 0 then rest else []) = d := ⟨_, rfl⟩
        have HD := Aside0.mk hd
        clear hd
        by_cases hok : k = 1 ∧ cd = 0
        · have HOK := Aside0.mk (show (decide (k = 1) && decide (cd = 0)) = true by simp [hok.1, hok.2])
          have HIS := Aside0.mk (show (getT T j).isSome = true by
            cases hg : getT T j with
            | none => exact absurd ⟨hok.1, hok.2, hg⟩ hst
            | some v => rfl)
          clear hst hok
          go_wp2_with (first
            | (go_at_call 39; rw [← hW5]; clear hW5; refine (read_calls k A5 bd.length c5 bd rfl W5 HC5.out HBDY.out (by omega) j rest cd HBE2.out d HD.out true HOK.out).mono ?_; rintro e w6 ⟨A6, c6, rfl, -, -, -, hb6⟩; have H6 := Aside0.mk (H5.out.below (hFT _ _) hb6); clear hb6)
            | (go_at_call 40; refine (t_get H6.out j true HIS.out).mono ?_; rintro e w7 ⟨A7, n7, c7, rfl, rfl⟩; obtain ⟨-, x1, -⟩ := t_cells H6.out)
            | (go_at_call 42; refine (f_cut (H6.out).unfirst.second (hRT _ _) n (by rw [HBE.out, HNB.out]; omega)).mono ?_; rintro e w9 ⟨rfl, h9⟩; have H9 := Aside0.mk h9.unsecond; clear h9))
          go_ret2
          refine ⟨gB, T, n, rfl, ⟨l, m, HALL.out, ?_⟩, by omega, ?_⟩
          · rw [← HO.out]; exact HST.out
          · have h := HBACK.out _ _ (HBK2.out _ _ H9.out)
            rw [HBE.out] at h
            show AtP W0 N w9 (Star (Star (TabA gB gF ((b.take n).length : Int) T) (FileA gF room (b.take n) [])) R)
            rw [show ((b.take n).length : Int) = n by rw [List.length_take, HNB.out]; omega]
            exact h
        · have HOK := Aside0.mk (show (decide (k = 1) && decide (cd = 0)) = false by
            rw [← Bool.not_eq_true, Bool.and_eq_true, decide_eq_true_eq, decide_eq_true_eq]; exact hok)
          obtain ⟨is, his⟩ : ∃ is, (getT T j).isSome = is := ⟨_, rfl⟩
          have HIS := Aside0.mk his
          clear hst hok his
          go_wp2_with (first
            | (go_at_call 39; rw [← hW5]; clear hW5; refine (read_calls k A5 bd.length c5 bd rfl W5 HC5.out HBDY.out (by omega) j rest cd HBE2.out d HD.out false HOK.out).mono ?_; rintro e w6 ⟨A6, c6, rfl, -, -, -, hb6⟩; have H6 := Aside0.mk (H5.out.below (hFT _ _) hb6); clear hb6)
            | (go_at_call 40; refine (t_get H6.out j is HIS.out).mono ?_; rintro e w7 ⟨A7, n7, c7, rfl, rfl⟩; obtain ⟨-, x1, -⟩ := t_cells H6.out)
            | (go_at_call 42; refine (f_cut (H6.out).unfirst.second (hRT _ _) n (by rw [HBE.out, HNB.out]; omega)).mono ?_; rintro e w9 ⟨rfl, h9⟩; have H9 := Aside0.mk h9.unsecond; clear h9))
          go_ret2
          refine ⟨gB, T, n, rfl, ⟨l, m, HALL.out, ?_⟩, by omega, ?_⟩
          · rw [← HO.out]; exact HST.out
          · have h := HBACK.out _ _ (HBK2.out _ _ H9.out)
            rw [HBE.out] at h
            show AtP W0 N w9 (Star (Star (TabA gB gF ((b.take n).length : Int) T) (FileA gF room (b.take n) [])) R)
            rw [show ((b.take n).length : Int) = n by rw [List.length_take, HNB.out]; omega]
            exact h
    · have hie : i = l.length := by omega
      subst hie
      have HST := Aside0.mk (show openL (l.drop l.length) T n = (T, n) by rw [List.drop_length]; rfl)
      have hnb2 : n ≤ nb := by have := HN.out; omega
      obtain ⟨-, x1, -⟩ := t_cells H.out
      go_wp2_with (first
        | (go_at_call 42; refine (f_cut (H.out).unfirst.second (hRT _ _) n (by rw [HBE.out, HNB.out]; omega)).mono ?_; rintro e w9 ⟨rfl, h9⟩; have H9 := Aside0.mk h9.unsecond; clear h9))
      go_ret2
      refine ⟨gB, T, n, rfl, ⟨l, m, HALL.out, ?_⟩, by omega, ?_⟩
      · rw [← HO.out]; exact HST.out
      · have h := HBACK.out _ _ H9.out
        rw [HBE.out] at h
        show AtP W0 N w9 (Star (Star (TabA gB gF ((b.take n).length : Int) T) (FileA gF room (b.take n) [])) R)
        rw [show ((b.take n).length : Int) = n by rw [List.length_take, HNB.out]; omega]
        exact h
end
end Go.Proofs.Ytfcpnjoiloahcaa.Bk
namespace Go.Proofs.Ytfcpnjoiloahcaa.Bk
open Go.RowKit Go.Proofs.YtfcpnjoiloahcaaW.PrintWords Go.Proofs.YtfcpnjoiloahcaaW.PrintLast Go.Proofs.YtfcpnjoiloahcaaW.PrintMore Go.Proofs.Ytfcpnjoiloahcaa.B Go.Proofs.Ytfcpnjoiloahcaa.Ta Go.Proofs.Ytfcpnjoiloahcaa.Fs Go.Proofs.Ytfcpnjoiloahcaa.Sp Go.Proofs.Ytfcpnjoiloahcaa.Ls Go.Proofs.Ytfcpnjoiloahcaa.Gs Go.Proofs.Ytfcpnjoiloahcaa.Go1 Go.Proofs.Ytfcpnjoiloahcaa.S Go.Proofs.Ytfcpnjoiloahcaa.R
set_option linter.unusedVariables false
set_option linter.unusedSimpArgs false
/-! ### Plainly -/
theorem allR_lays {rest : List Int} (hr : (takeL rest).2.2.2 ≠ 0) : ∀ (l : List (Int × List Int)), (∀ p ∈ l, p.2.length ≤ 65536) → AllR (laysL l ++ rest) l (laysL l).length
  | [], _ => AllR.stop hr
  | (k, b) :: l, h => by
    have h1 := take_lay (k := k) (b := b) (rest := laysL l ++ rest) (h _ (List.mem_cons_self ..))
    have h2 := allR_lays hr l (fun p hp => h p (List.mem_cons_of_mem _ hp))
    have e : laysL ((k, b) :: l) = layL k b ++ laysL l := by simp [laysL]
    rw [e, List.append_assoc, List.length_append]
    exact AllR.step h1 (by rw [List.drop_left]; exact h2)
/-- The frames of what was committed. -/
def fr (h : List (Int × List Int)) : List (Int × List Int) := h.map fun p => (1, p.1 :: p.2)
def recs (h : List (Int × List Int)) : List Int := laysL (fr h)
def tabH : Tab → List (Int × List Int) → Tab
  | t, [] => t
  | t, p :: h => tabH (putT t p.1 p.2) h
/-- Each job is new when it comes. -/
def NewH : Tab → List (Int × List Int) → Prop
  | _, [] => True
  | t, p :: h => (0 ≤ p.1 ∧ p.1 < 16) ∧ getT t p.1 = none ∧ p.2.length ≤ 60000 ∧ NewH (putT t p.1 p.2) h
theorem recs_snoc (h : List (Int × List Int)) (j : Int) (d : List Int) : recs (h ++ [(j, d)]) = recs h ++ recL j d := by simp [recs, fr, laysL, recL]
theorem tabH_snoc : ∀ (t : Tab) (h : List (Int × List Int)) (j : Int) (d : List Int), tabH t (h ++ [(j, d)]) = putT (tabH t h) j d
  | t, [], j, d => rfl
  | t, p :: h, j, d => by rw [List.cons_append, tabH, tabH_snoc, tabH]
theorem newH_snoc : ∀ {t : Tab} {h : List (Int × List Int)} {j : Int} {d : List Int}, NewH t h → 0 ≤ j → j < 16 → getT (tabH t h) j = none → d.length ≤ 60000 → NewH t (h ++ [(j, d)])
  | t, [], j, d, hn, h0, h1, hg, hl => ⟨⟨h0, h1⟩, hg, hl, trivial⟩
  | t, p :: h, j, d, hn, h0, h1, hg, hl => ⟨hn.1, hn.2.1, hn.2.2.1, newH_snoc hn.2.2.2 h0 h1 hg hl⟩
theorem openL_fr : ∀ {h : List (Int × List Int)} {t : Tab} (n : Nat), NewH t h → openL (fr h) t n = (tabH t h, n + (recs h).length)
  | [], t, n, _ => rfl
  | p :: h, t, n, hn => by
    obtain ⟨⟨h0, h1⟩, h2, h3, h4⟩ := hn
    have e : fr (p :: h) = (1, p.1 :: p.2) :: fr h := rfl
    rw [e, openL_go (rd_one h0 h1) ⟨rfl, rfl, h2⟩, openL_fr _ h4, tabH]
    have e2 : recs (p :: h) = layL 1 (p.1 :: p.2) ++ recs h := by simp [recs, fr, laysL]
    rw [e2, List.length_append, Nat.add_assoc]
theorem newH_len : ∀ {h : List (Int × List Int)} {t : Tab}, NewH t h → ∀ p ∈ fr h, p.2.length ≤ 65536
  | p :: h, t, hn, x, hx => by
    rcases List.mem_cons.1 hx with rfl | hx
    · have := hn.2.2.1
      simp only [List.length_cons]
      omega
    · exact newH_len hn.2.2.2 x hx
theorem opened_recs {h : List (Int × List Int)} {rest : List Int} (hn : NewH [] h) (hr : (takeL rest).2.2.2 ≠ 0) : Opened (recs h ++ rest) (tabH [] h) (recs h).length :=
  ⟨fr h, (recs h).length, allR_lays hr _ (newH_len hn), by rw [openL_fr 0 hn, Nat.zero_add]⟩
theorem take_none : (takeL []).2.2.2 ≠ 0 := by decide
theorem opened_nil : Opened [] [] 0 := by
  have h := opened_recs (h := []) (rest := []) trivial take_none
  exact h
theorem rec_len (j : Int) (d : List Int) : (recL j d).length ≤ 9 + (d.length + 1) ∨ 65536 < d.length + 1 := by
  by_cases h : d.length + 1 ≤ 65536
  · left
    have h1 := lay_len 1 (j :: d)
    have h2 := (putl_three (n := d.length + 1) h).2
    unfold recL
    rw [h1, List.length_cons]
    omega
  · right; omega
theorem rec_by {j : Int} {d : List Int} (h0 : 0 ≤ j) (h1 : j < 16) (h : By d) : By (recL j d) := lay_by (by decide) (fun x hx => by
  rcases List.mem_cons.1 hx with rfl | hx
  · omega
  · exact h x hx)
/-- A fall amid the record at the end. -/
theorem fallen_one (keep : List Int) (s r : List Int) : fallen keep 0 [((s.length : Int), r)] s = s ++ r.take (kept keep 0 r.length) := by
  show (if 0 < kept keep 0 r.length then laid s (s.length : Int).toNat (r.take (kept keep 0 r.length)) else s) = _
  rw [Int.toNat_natCast, laid_end]
  split
  · rfl
  · rename_i h
    rw [show kept keep 0 r.length = 0 by omega]
    simp
/-- What is opened behind a fall amid a record. -/
theorem opened_fall {h : List (Int × List Int)} {j : Int} {d : List Int} (hn : NewH [] h) (hj : 0 ≤ j) (hj1 : j < 16) (hg : getT (tabH [] h) j = none) (hl : d.length ≤ 60000) (k : Nat) (hk : k ≤ (recL j d).length) :
    (k < (recL j d).length ∧ Opened (recs h ++ (recL j d).take k) (tabH [] h) (recs h).length) ∨ (k = (recL j d).length ∧ Opened (recs h ++ (recL j d).take k) (tabH [] (h ++ [(j, d)])) (recs (h ++ [(j, d)])).length) := by
  rcases Nat.lt_or_ge k (recL j d).length with h1 | h1
  · left
    refine ⟨h1, opened_recs hn ?_⟩
    have := take_cut (k := 1) (b := j :: d) (by simp only [List.length_cons]; omega) (j := k) h1
    unfold recL
    rw [this]; decide
  · right
    have e : k = (recL j d).length := by omega
    refine ⟨e, ?_⟩
    have h2 := opened_recs (rest := []) (newH_snoc hn hj hj1 hg hl) take_none
    rw [List.append_nil, recs_snoc] at h2
    rw [e, List.take_length, recs_snoc]
    exact h2
/-! ### SameInts -/
set_option maxHeartbeats 1000000 in
set_option maxRecDepth 100000 in
theorem same_ints (A A' : Option Addr) (c c' : Nat) (l : List Int) (n : Nat) (hn : l.length = n) (hn1 : n ≤ 1000000) (w : World) (hC : kI.C w A n l) (hC' : kI.C w A' n l) :
    Calls Try.prog 33 #[.slice A n c, .slice A' n c'] w fun e w' => e = .returned (.bool true) ∧ Below w.heap.size w w' := by
  have HC := Aside0.mk hC
  have HC' := Aside0.mk hC'
  have HN := Aside0.mk hn
  have HB0 := Aside0.mk (Below.refl w.heap.size w)
  clear hC hC' hn
  go_enter Try.func33, Try.ntmps33
  go_wp2_with fail
  go_loopw [5] (fun vi wr => ∃ k : Nat, k ≤ n ∧ vi = .int .i64 k ∧ Aside0 (Below w.heap.size w wr)) (fun vi _ => n - (intOf vi).toNat)
  case atStart => exact ⟨0, by omega, rfl, HB0⟩
  case round =>
    clear HB0
    obtain ⟨k, hk, rfl, HB⟩ := hrel
    by_cases hgo : k < n
    · obtain ⟨x, hp⟩ : ∃ p, l[k]? = some p := ⟨_, List.getElem?_eq_getElem (by rw [HN.out]; exact hgo)⟩
      obtain ⟨ad, rfl⟩ := C_some HC.out (by omega)
      obtain ⟨ad', rfl⟩ := C_some HC'.out (by omega)
      have q0 := C_cell (Kd.C_below HC.out HB.out) hp
      have q1 := C_cell (Kd.C_below HC'.out HB.out) hp
      have hkk : (x != x) = false := by simp
      have HWR := Aside0.mk (show ∀ W, Keep (fun _ => False) wr.drew W → Below wr.heap.size wr W from fun W hW => (Below.refl wr.heap.size wr).drew.trans (hW.below (Nat.le_refl _) (fun _ _ h => h)))
      have HQ := Aside0.mk (And.intro q0 q1)
      clear hp q0 q1
      go_wp2_with fail
      refine rk_start (fun _ => False) (by kernel_rfl) (n := 9) (l := #[false, false, false, false, false, false, false, false, false]) (by kernel_rfl) (by kernel_rfl) ?_
      refine rk_take (fuel := 8) 0 rfl (by kernel_rfl) (listed' := #[true, false, false, false, false, false, false, false, false]) (by kernel_rfl) (fun _ _ _ h => h) (by kernel_rfl) (fun w' hR => by go_simp; first | done | with_reducible rfl) rfl ?_
      try simp only [Act.put, List.setIfInBounds_toArray, List.set_cons_zero, List.set_cons_succ]
      refine rk_take (fuel := 7) 1 rfl (by kernel_rfl) (listed' := #[true, true, false, false, false, false, false, false, false]) (by kernel_rfl) (fun _ _ _ h => h) (by kernel_rfl) (fun w' hR => by go_simp; first | done | with_reducible rfl) rfl ?_
      try simp only [Act.put, List.setIfInBounds_toArray, List.set_cons_zero, List.set_cons_succ]
      refine rk_take (fuel := 6) 2 rfl (by kernel_rfl) (listed' := #[true, true, true, false, false, false, false, false, false]) (by kernel_rfl) (fun _ _ _ h => h) (by kernel_rfl) (fun w' hR => by go_simp; first | done | with_reducible rfl) rfl ?_
      try simp only [Act.put, List.setIfInBounds_toArray, List.set_cons_zero, List.set_cons_succ]
      refine rk_take (fuel := 5) 3 rfl (by kernel_rfl) (listed' := #[true, true, true, true, false, false, false, false, false]) (by kernel_rfl) (fun _ _ _ h => h) (by kernel_rfl) (fun w' hR => by have x0 := pw_cell_below (HWR.out w' hR) HQ.out.1; go_simp; first | done | with_reducible rfl) rfl ?_
      try simp only [Act.put, List.setIfInBounds_toArray, List.set_cons_zero, List.set_cons_succ]
      refine rk_take (fuel := 4) 4 rfl (by kernel_rfl) (listed' := #[true, true, true, true, true, false, false, false, false]) (by kernel_rfl) (fun _ _ _ h => h) (by kernel_rfl) (fun w' hR => by go_simp; first | done | with_reducible rfl) rfl ?_
      try simp only [Act.put, List.setIfInBounds_toArray, List.set_cons_zero, List.set_cons_succ]
      refine rk_take (fuel := 3) 5 rfl (by kernel_rfl) (listed' := #[true, true, true, true, true, true, false, false, false]) (by kernel_rfl) (fun _ _ _ h => h) (by kernel_rfl) (fun w' hR => by go_simp; first | done | with_reducible rfl) rfl ?_
      try simp only [Act.put, List.setIfInBounds_toArray, List.set_cons_zero, List.set_cons_succ]
      refine rk_take (fuel := 2) 6 rfl (by kernel_rfl) (listed' := #[true, true, true, true, true, true, true, false, false]) (by kernel_rfl) (fun _ _ _ h => h) (by kernel_rfl) (fun w' hR => by go_simp; first | done | with_reducible rfl) rfl ?_
      try simp only [Act.put, List.setIfInBounds_toArray, List.set_cons_zero, List.set_cons_succ]
      refine rk_take (fuel := 1) 7 rfl (by kernel_rfl) (listed' := #[true, true, true, true, true, true, true, true, false]) (by kernel_rfl) (fun _ _ _ h => h) (by kernel_rfl) (fun w' hR => by have x0 := pw_cell_below (HWR.out w' hR) HQ.out.2; go_simp; first | done | with_reducible rfl) rfl ?_
      try simp only [Act.put, List.setIfInBounds_toArray, List.set_cons_zero, List.set_cons_succ]
      refine rk_take (fuel := 0) 8 rfl (by kernel_rfl) (listed' := #[true, true, true, true, true, true, true, true, true]) (by kernel_rfl) (fun _ _ _ h => h) (by kernel_rfl) (fun w' hR => by go_simp; first | done | with_reducible rfl) rfl ?_
      try simp only [Act.put, List.setIfInBounds_toArray, List.set_cons_zero, List.set_cons_succ]
      refine rk_done (by kernel_rfl) ?_
      go_wp2
      go_roundw
      case rel => exact ⟨k + 1, by omega, by go_num, ⟨HB.out.drew⟩⟩
      case measure => simp [intOf]; omega
    · have hke : k = n := by omega
      subst hke
      go_wp2_with fail
      go_ret
      exact ⟨rfl, HB.out⟩
/-! ### The fixed fact -/
set_option maxHeartbeats 4000000 in
set_option maxRecDepth 100000 in
theorem awake_calls (w : World) : Calls Try.prog 15 #[] w fun e w' => e = .returned (.bool true) ∧ Below w.heap.size w w' := by
  have hq1 : ((strOfNums [120]).toList == [120]) = true := by decide +kernel
  have b1 : By [120] := by intro x hx; simp at hx; omega
  have b2 : By [121] := by intro x hx; simp at hx; omega
  have hl1 : layR 1000 [] [] 3 [120] = 0 := by
    have := rec_len 3 [120]
    simp only [List.length_cons, List.length_nil] at this
    rw [layR, if_neg (by decide), if_neg (by decide), if_neg (by simp only [List.length_nil]; omega)]
  obtain ⟨s1, hs1⟩ : ∃ s1, recL 3 [120] = s1 := ⟨_, rfl⟩
  have hs1l : s1.length ≤ 11 := by
    have := rec_len 3 [120]
    rw [hs1] at this
    simp only [List.length_cons, List.length_nil] at this
    omega
  obtain ⟨r2, hr2⟩ : ∃ r2, recL 5 [121] = r2 := ⟨_, rfl⟩
  have hr2l : r2.length = 9 := by
    rw [← hr2, recL, lay_len, show putl [(5 : Int), 121].length = [2] by rw [putl, if_pos (by decide)]; rfl]
    rfl
  have hl2 : layR 1000 s1 [(3, [120])] 5 [121] = 0 := by
    rw [layR, if_neg (by decide), if_neg (by decide), if_neg (by rw [hr2]; omega)]
  have hq2 : layQ 1000 s1 [(3, [120])] 5 [121] = [((s1.length : Int), r2)] := by rw [layQ, if_pos hl2, hr2]
  have hf : fallen [4] 0 [((s1.length : Int), r2)] s1 = s1 ++ r2.take 4 := by
    rw [fallen_one, hr2l]
    rfl
  have hop : Opened (s1 ++ r2.take 4) [(3, [120])] s1.length := by
    have h := opened_fall (h := [(3, [120])]) (j := 5) (d := [121]) ⟨by decide, rfl, by decide, trivial⟩ (by decide) (by decide) rfl (by decide) 4 (by rw [hr2, hr2l]; decide)
    rw [hr2, hr2l] at h
    have e : recs [(3, [120])] = s1 := by
      rw [← hs1]
      simp [recs, fr, laysL, recL]
    rw [e] at h
    rcases h with ⟨-, h⟩ | ⟨h, -⟩
    · exact h
    · omega
  have HOP := Aside0.mk hop
  have HF := Aside0.mk hf
  have HQ2 := Aside0.mk hq2
  have HL2 := Aside0.mk hl2
  have HL1 := Aside0.mk hl1
  have HS1 := Aside0.mk hs1
  have HLEN := Aside0.mk (show (s1 ++ r2.take 4).length ≤ 1000000 by rw [List.length_append, List.length_take]; omega)
  clear hop hf hq2 hl2 hl1 hr2 hr2l hs1 hs1l
  go_enter Try.func15, Try.ntmps15
  go_wp2_with (first
    | (go_at_call 16; refine (f_new w 1000 _ (Below.refl _ _) (by decide) (by decide)).mono ?_; rintro e w1 ⟨g, rfl, h1, -⟩; have H1 := Aside0.mk h1.empty; clear h1)
    | (go_at_call 17; (refine (Calls.mono (open_at (w := w1) H1.out Firm.emp [] 0 rfl rfl (by decide)) ?_)); rintro e w2 ⟨gB, T, n, rfl, ho, hn, h2⟩; obtain ⟨rfl, rfl⟩ := ho.same opened_nil; have hcv2 := Lib.run_convert_bytes_const (P := Try.prog) w2 24 5 #[.int .u8 120] 1 1 Try.underlying24 Try.underlying5; have H2 := Aside0.mk h2; clear h2 H1 ho hn)
    | (go_at_call 23; refine (commit_yes (w1 := w2) (s' := s1) (t' := [(3, [120])]) H2.out ((Below.refl _ _).alloc (Nat.le_refl _) _) Firm.emp 3 (by decide) (by decide) (some ⟨w2.heap.size, 0, none⟩) 1 _ [120] rfl (C_litM .u8 5 w2 [120] (1, 2) (by decide)) (fun a ha _ => (by injection ha with ha; subst ha; exact ⟨.inl (Nat.le_refl _), by simp⟩)) b1 (by decide) HL1.out HS1.out rfl).mono ?_; rintro e w3 ⟨rfl, h3⟩; have hcv3 := Lib.run_convert_bytes_const (P := Try.prog) w3 24 5 #[.int .u8 121] 1 1 Try.underlying24 Try.underlying5; have H3 := Aside0.mk h3; clear h3 H2)
    | (go_at_call 19; refine (begin_at (w1 := w3) H3.out ((Below.refl _ _).alloc (Nat.le_refl _) _) Firm.emp 5 (by decide) (by decide) (some ⟨w3.heap.size, 0, none⟩) 1 _ [121] rfl (C_litM .u8 5 w3 [121] (1, 2) (by decide)) b2 (by decide) 0 HL2.out _ HQ2.out).mono ?_; rintro e w4 ⟨rfl, h4⟩; have H4 := Aside0.mk h4.second.drop.empty; clear h4 H3)
    | (go_at_call 21; refine (f_crash (w1 := w4) H4.out ((Below.refl _ _).alloc (Nat.le_refl _) _) Firm.emp (some ⟨w4.heap.size, 0, none⟩) 1 _ [4] rfl (C_lit .i64 3 w4 [4] (by decide)) (fun a ha _ => (by injection ha with ha; subst ha; exact ⟨.inl (Nat.le_refl _), by simp⟩)) (by intro x hx; simp at hx; omega) (s1 ++ r2.take 4) HF.out).mono ?_; rintro e w5 ⟨rfl, h5⟩; have H5 := Aside0.mk h5; clear h5 H4)
    | (go_at_call 17; refine (open_at (w := w5) H5.out Firm.emp (s1 ++ r2.take 4) (s1 ++ r2.take 4).length rfl rfl HLEN.out).mono ?_; rintro e w6 ⟨gB2, T, n, rfl, ho, hn, h6⟩; obtain ⟨rfl, rfl⟩ := ho.same HOP.out; have H6 := Aside0.mk h6; clear h6 H5 ho hn)
    | (go_at_call 34; refine (bget_some H6.out.first 3 [120] 1 rfl rfl).mono ?_; rintro e w7 ⟨A7, c7, rfl, hC7, -, hb7⟩; have H7 := Aside0.mk (H6.out.below (BookA.firm.star Firm.emp) hb7); have HC7 := Aside0.mk hC7; clear hC7 hb7 H6)
    | (go_at_call 32; refine (jobs_at H7.out.first [3] 1 rfl rfl).mono ?_; rintro e w8 ⟨A8, c8, rfl, hC8, -, hb8⟩; have H8 := Aside0.mk (H7.out.below (BookA.firm.star Firm.emp) hb8); have HC8 := Aside0.mk hC8; have HC7 := Aside0.mk (Kd.C_below HC7.out hb8); clear hC8 hb8 H7)
    | (go_at_call 33; refine (same_ints A8 (some ⟨w8.heap.size, 0, none⟩) c8 1 [3] 1 rfl (by decide) _ (Kd.C_alloc HC8.out _) (C_lit .i64 3 w8 [3] (by decide))).mono ?_; rintro e w9 ⟨rfl, hb9⟩; have HB9 := Aside0.mk hb9; have hs7 := Gc.C_str (c := c7) (Kd.C_below (Kd.C_alloc HC7.out _) hb9); clear hb9))
  go_ret
  refine ⟨?_, (H8.out.keep.below (Nat.le_refl _) (fun _ _ h => h)).trans ((((Below.refl w8.heap.size w8).alloc (Nat.le_refl _) _).trans (HB9.out.mono (by simp))).mono H8.out.keep.size)⟩
  rfl
end Go.Proofs.Ytfcpnjoiloahcaa.Bk
namespace Go.Proofs.Ytfcpnjoiloahcaa.Bk
open Go.RowKit Go.Proofs.YtfcpnjoiloahcaaW.PrintWords Go.Proofs.YtfcpnjoiloahcaaW.PrintLast Go.Proofs.YtfcpnjoiloahcaaW.PrintMore Go.Proofs.Ytfcpnjoiloahcaa.B Go.Proofs.Ytfcpnjoiloahcaa.O Go.Proofs.Ytfcpnjoiloahcaa.Ta
set_option linter.unusedVariables false
set_option linter.unusedSimpArgs false
/-- An act: its job, its bytes, raw or not, whether it falls, what is kept. -/
abbrev ActT := Int × List Int × Bool × Bool × List Int
abbrev kA : Kd ActT := Kd.pair (Kd.int .i64) (Kd.pair (Kd.slice 5 kU8) (Kd.pair Kd.bool (Kd.pair Kd.bool (Kd.slice 3 (Kd.int .i64)))))
def AOk (p : ActT) : Prop := (-9223372036854775808 ≤ p.1 ∧ p.1 ≤ 9223372036854775807) ∧ By p.2.1 ∧ (∀ x ∈ p.2.2.2.2, -9223372036854775808 ≤ x ∧ x ≤ 9223372036854775807)
theorem opens_u8s : Opens Try.prog 24 (Kd.slice 5 kU8) (fun l => (∀ v ∈ l, (Lit.int .u8 v).wf = true) ∧ l.length ≤ 9223372036854775807) := opens_slice Try.underlying24 (by kernel_rfl) (opens_int Try.underlying5)
theorem opens_ints : Opens Try.prog 23 (Kd.slice 3 (Kd.int .i64)) (fun l => (∀ v ∈ l, (Lit.int .i64 v).wf = true) ∧ l.length ≤ 9223372036854775807) := opens_slice Try.underlying23 (by kernel_rfl) (opens_int Try.underlying3)
theorem opens_act : Opens Try.prog 50 kA AOk :=
  opens_mono (opens_struct Try.underlying50 (by kernel_rfl) (opens_cons rfl (by kernel_rfl) (opens_int Try.underlying3) (opens_cons rfl (by kernel_rfl) opens_u8s (opens_cons rfl (by kernel_rfl) (opens_bool Try.underlying4) (opens_cons rfl (by kernel_rfl) (opens_bool Try.underlying4) (opens_last rfl (by kernel_rfl) opens_ints))))))
    (fun p h => ⟨wf_i64 h.1, fun x hx => wf_u8 (h.2.1.1 x hx), fun x hx => wf_i64 (h.2.2.2.2.1 x hx)⟩)
theorem opens_acts : Opens Try.prog 35 (Kd.slice 50 kA) (fun l => (∀ v ∈ l, AOk v) ∧ l.length ≤ 9223372036854775807) := opens_slice Try.underlying35 (by kernel_rfl) opens_act
abbrev kL : Kd (List Int) := Kd.slice 5 kU8
theorem opens_bytes : Opens Try.prog 24 kL (fun l => By l) := opens_mono opens_u8s (fun l h x hx => wf_u8 (h.1 x hx))
theorem opens_rows : Opens Try.prog 61 (Kd.slice 24 kL) (fun l => (∀ v ∈ l, By v) ∧ l.length ≤ 9223372036854775807) := opens_slice Try.underlying61 (by kernel_rfl) opens_bytes
/-- An act's cells. -/
theorem act_K {w : World} {i : Int} {raw falls : Bool} {b keep : List Int} {cs : List Value} (h : kA.K w (i, b, raw, falls, keep) cs) :
    ∃ (A : Option Addr) (c : Nat) (B : Option Addr) (d : Nat), cs = [.int .i64 i, .slice A b.length c, .bool raw, .bool falls, .slice B keep.length d] ∧ b.length ≤ c ∧ keep.length ≤ d ∧ kU8.C w A b.length b ∧ (Kd.int .i64).C w B keep.length keep := by
  obtain ⟨c0, c1, rfl, h0, c2, c3, rfl, ⟨A, c, hA, h3, h4⟩, c4, c5, rfl, h1, c6, c7, rfl, h2, B, d, hB, h5, h6⟩ := h
  have e0 : c0 = [.int .i64 i] := h0
  have e1 : c4 = [.bool raw] := h1
  have e2 : c6 = [.bool falls] := h2
  subst e0 e1 e2 hA hB
  exact ⟨A, c, B, d, rfl, h3, h5, h4, h6⟩
theorem act_cells {w : World} {ad : Addr} {m : List ActT} (h : kA.C w (some ad) m.length m) {k : Nat} {i : Int} {raw falls : Bool} {b keep : List Int} (hk : m[k]? = some (i, b, raw, falls, keep)) :
    ∃ (A : Option Addr) (c : Nat) (B : Option Addr) (d : Nat), w.cell? (ad.add (k * 5)) = some (.int .i64 i) ∧ w.cell? ⟨(ad.add (k * 5)).block, (ad.add (k * 5)).off + 1, none⟩ = some (.slice A b.length c) ∧ w.cell? ⟨(ad.add (k * 5)).block, (ad.add (k * 5)).off + 2, none⟩ = some (.bool raw) ∧
      w.cell? ⟨(ad.add (k * 5)).block, (ad.add (k * 5)).off + 3, none⟩ = some (.bool falls) ∧ w.cell? ⟨(ad.add (k * 5)).block, (ad.add (k * 5)).off + 4, none⟩ = some (.slice B keep.length d) ∧ b.length ≤ c ∧ keep.length ≤ d ∧ kU8.C w A b.length b ∧ (Kd.int .i64).C w B keep.length keep := by
  have hj := (List.getElem?_eq_some_iff.1 hk).1
  obtain ⟨ad', e, hc⟩ := h.2.2 (by omega)
  injection e with e
  subst e
  obtain ⟨cs, h1, h2, h3⟩ := hc k _ hk
  obtain ⟨A, c, B, d, rfl, h4, h5, h6, h7⟩ := act_K h2
  have hs : kA.sz = 5 := rfl
  have g0 := h3 0 _ rfl
  have g1 := h3 1 _ rfl
  have g2 := h3 2 _ rfl
  have g3 := h3 3 _ rfl
  have g4 := h3 4 _ rfl
  rw [hs] at g0 g1 g2 g3 g4
  rw [← YtfcpnjoiloahcaaW.PrintWords.add_add] at g1 g2 g3 g4
  exact ⟨A, c, B, d, g0, g1, g2, g3, g4, h4, h5, h6, h7⟩
/-- A row of bytes among rows. -/
theorem row_cells {w : World} {A0 : Option Addr} {n : Nat} {m : List (List Int)} (h : kL.C w A0 n m) {k : Nat} {b : List Int} (hk : m[k]? = some b) :
    ∃ (ad : Addr) (A : Option Addr) (c : Nat), A0 = some ad ∧ w.cell? (ad.add k) = some (.slice A b.length c) ∧ b.length ≤ c ∧ kU8.C w A b.length b := by
  have hj := (List.getElem?_eq_some_iff.1 hk).1
  obtain ⟨ad, e, hc⟩ := h.2.2 (by have := h.1; omega)
  obtain ⟨cs, h1, ⟨A, c, rfl, h3, h4⟩, h5⟩ := hc k _ hk
  have g0 := h5 0 _ rfl
  have hs : kL.sz = 1 := rfl
  rw [hs, Nat.mul_one, Nat.add_zero] at g0
  exact ⟨ad, A, c, e, g0, h3, h4⟩
/-- Where something is read there is a block of the world's. -/
theorem C_lt {k : IntKind} {w : World} {A : Option Addr} {n : Nat} {xs : List Int} (h : (Kd.int k).C w A n xs) (h0 : 0 < n) : ∀ a, A = some a → a.block < w.heap.size := by
  intro a ha
  subst ha
  have hn := h.1
  rw [← hn] at h
  have h1 := C_cell h (List.getElem?_eq_getElem (show 0 < xs.length by omega))
  have h2 := World.block_lt_of_cell? w _ h1
  rwa [B.add_block] at h2
/-! ### No book, no file -/
theorem nil_commit (w : World) (j : Int) (B : Option Addr) (n c : Nat) : Calls Try.prog 23 #[.pointer none, .int .i64 j, .slice B n c] w fun e w' => e = .returned (.int .i64 1) ∧ w = w' := by
  go_enter Try.func23, Try.ntmps23
  go_wp2
  go_ret
  exact ⟨rfl, rfl⟩
theorem nil_begin (w : World) (j : Int) (B : Option Addr) (n c : Nat) : Calls Try.prog 19 #[.pointer none, .int .i64 j, .slice B n c] w fun e w' => e = .returned (.int .i64 1) ∧ w = w' := by
  go_enter Try.func19, Try.ntmps19
  go_wp2
  go_ret
  exact ⟨rfl, rfl⟩
theorem nil_get (w : World) (j : Int) : Calls Try.prog 34 #[.pointer none, .int .i64 j] w fun e w' => e = .returned (.tuple #[.slice none 0 0, .bool false]) ∧ w = w' := by
  go_enter Try.func34, Try.ntmps34
  go_wp2
  go_ret2
  exact ⟨rfl, rfl⟩
theorem nil_jobs (w : World) : Calls Try.prog 32 #[.pointer none] w fun e w' => e = .returned (.slice none 0 0) ∧ w = w' := by
  go_enter Try.func32, Try.ntmps32
  go_wp2
  go_ret
  exact ⟨rfl, rfl⟩
theorem nil_open (w : World) : Calls Try.prog 17 #[.pointer none] w fun e w' => e = .returned (.tuple #[.pointer none, .int .i64 1]) ∧ w = w' := by
  go_enter Try.func17, Try.ntmps17
  go_wp2
  go_ret2
  exact ⟨rfl, rfl⟩
end Go.Proofs.Ytfcpnjoiloahcaa.Bk
namespace Go.Proofs.Ytfcpnjoiloahcaa.Sp
open Go.RowKit Go.Proofs.YtfcpnjoiloahcaaW.PrintWords Go.Proofs.YtfcpnjoiloahcaaW.PrintLast Go.Proofs.YtfcpnjoiloahcaaW.PrintMore Go.Proofs.Ytfcpnjoiloahcaa.B Go.Proofs.Ytfcpnjoiloahcaa.Ta Go.Proofs.Ytfcpnjoiloahcaa.Fs
set_option linter.unusedVariables false
set_option linter.unusedSimpArgs false
section
variable {α : Type} {d : Kd α} {e : Nat} {v : Value} {xs : List α} {W0 w w' : World} {N : Nat → Prop} {R : Assn}
def RowA {α : Type} (d : Kd α) (e : Nat) (v : Value) (xs : List α) : Assn := fun w own => d.R e w 0 own v xs ∧ ∀ k, own k → k < w.heap.size
theorem RowA.firm : Firm (RowA d e v xs) := ⟨fun h hk hd => ⟨Kd.R_step h.1 (fun k ho hl => hk.block k hl (hd k ho)), fun k ho => Nat.lt_of_lt_of_le (h.2 k ho) hk.size⟩, fun h => h.2⟩
theorem RowA.nil (d : Kd α) (e : Nat) (w : World) : RowA d e (.slice none 0 0) [] w (fun _ => False) := ⟨Kd.R_nil _ _ _ _ _, fun _ h => h.elim⟩
/-- The row, to be turned. -/
theorem AtP.row (h : AtP W0 N w (Star (RowA d e v xs) R)) (hR : Firm R) : ∃ o1 : Nat → Prop, d.R e w 0 o1 v xs ∧ (∀ k, o1 k → k < w.heap.size) ∧
    ∀ w' v' xs', d.R e w' 0 (fun k => o1 k ∨ w.heap.size ≤ k) v' xs' → Keep o1 w w' → AtP W0 N w' (Star (RowA d e v' xs') R) := by
  obtain ⟨own, ⟨o1, o2, h1, h2, h3, h4⟩, h5, h6⟩ := h
  refine ⟨o1, h1.1, h1.2, fun w' v' xs' hr hk => ?_⟩
  refine ⟨fun k => ((o1 k ∨ w.heap.size ≤ k) ∧ k < w'.heap.size) ∨ o2 k, ⟨_, o2, ⟨Kd.R_mono (Kd.R_bound hr) (fun k h => ⟨h.1, h.2.2.1⟩), fun k h => h.2⟩, hR.move h2 hk (fun k a b => h3 k b a), fun k a b => ?_, fun k => Iff.rfl⟩, fun k hkk => ?_, h6.then hk (fun k hl h => (h5 k ((h4 k).1 (.inl h))).elim id (fun h => by omega))⟩
  · rcases a.1 with h | h
    · exact h3 k h b
    · have := hR.lt h2 k b; omega
  · rcases hkk with hkk | hkk
    · rcases hkk.1 with h | h
      · exact h5 k ((h4 k).1 (.inl h))
      · exact .inr (Nat.le_trans h6.size h)
    · exact h5 k ((h4 k).1 (.inr hkk))
end
end Go.Proofs.Ytfcpnjoiloahcaa.Sp
namespace Go.Proofs.Ytfcpnjoiloahcaa.Bk
open Go.RowKit Go.Proofs.YtfcpnjoiloahcaaW.PrintWords Go.Proofs.YtfcpnjoiloahcaaW.PrintLast Go.Proofs.YtfcpnjoiloahcaaW.PrintMore Go.Proofs.Ytfcpnjoiloahcaa.B Go.Proofs.Ytfcpnjoiloahcaa.Ta Go.Proofs.Ytfcpnjoiloahcaa.Fs Go.Proofs.Ytfcpnjoiloahcaa.Sp Go.Proofs.Ytfcpnjoiloahcaa.Ls Go.Proofs.Ytfcpnjoiloahcaa.Gs Go.Proofs.Ytfcpnjoiloahcaa.Go1 Go.Proofs.Ytfcpnjoiloahcaa.S Go.Proofs.Ytfcpnjoiloahcaa.R
set_option linter.unusedVariables false
set_option linter.unusedSimpArgs false
theorem tabH_len : ∀ (t : Tab) (h : List (Int × List Int)), (tabH t h).length = t.length + h.length
  | t, [] => rfl
  | t, p :: h => by rw [tabH, tabH_len, len_put, List.length_cons]; omega
theorem fr_len (h : List (Int × List Int)) : (fr h).length = h.length := by simp [fr]
theorem fr_snoc (h : List (Int × List Int)) (j : Int) (d : List Int) : fr (h ++ [(j, d)]) = fr h ++ [(1, j :: d)] := by simp [fr]
theorem recs_all {h : List (Int × List Int)} (hn : NewH [] h) : AllR (recs h) (fr h) (recs h).length := by
  have h1 := allR_lays (rest := []) take_none (fr h) (newH_len hn)
  rwa [List.append_nil] at h1
/-- What laying a record comes to, where there is room. -/
theorem layR_room {room : Int} {s : List Int} {t : Tab} {j : Int} {b : List Int} (h0 : 0 ≤ j) (h1 : j < 16) (hr : (s.length : Int) + 10 + b.length ≤ room) (hb : b.length < 65536) : layR room s t j b = if (getT t j).isSome then 51 else 0 := by
  have h2 := rec_len j b
  unfold layR
  rw [if_neg (by omega)]
  split
  · rfl
  · rw [if_neg (by omega)]
end Go.Proofs.Ytfcpnjoiloahcaa.Bk
namespace Go.Proofs.Ytfcpnjoiloahcaa.Bk
open Go.RowKit Go.Proofs.YtfcpnjoiloahcaaW.PrintWords Go.Proofs.YtfcpnjoiloahcaaW.PrintLast Go.Proofs.YtfcpnjoiloahcaaW.PrintMore Go.Proofs.Ytfcpnjoiloahcaa.B Go.Proofs.Ytfcpnjoiloahcaa.Ta Go.Proofs.Ytfcpnjoiloahcaa.Fs Go.Proofs.Ytfcpnjoiloahcaa.Sp Go.Proofs.Ytfcpnjoiloahcaa.Ls Go.Proofs.Ytfcpnjoiloahcaa.Gs Go.Proofs.Ytfcpnjoiloahcaa.Go1 Go.Proofs.Ytfcpnjoiloahcaa.S Go.Proofs.Ytfcpnjoiloahcaa.R
set_option linter.unusedVariables false
set_option linter.unusedSimpArgs false
theorem tabH_old : ∀ {h : List (Int × List Int)} {t : Tab} {j : Int} {v : List Int}, NewH t h → getT t j = some v → getT (tabH t h) j = some v
  | [], t, j, v, _, hg => hg
  | p :: h, t, j, v, hn, hg => by
    refine tabH_old (t := putT t p.1 p.2) hn.2.2.2 ?_
    rw [get_put j (get_none hn.2.1)]
    split
    · rename_i e
      have h1 := hn.2.1
      rw [e, hg] at h1
      cases h1
    · exact hg
theorem tabH_none : ∀ {h : List (Int × List Int)} {t : Tab} {j : Int}, NewH t h → getT t j = none → (∀ p ∈ h, p.1 ≠ j) → getT (tabH t h) j = none
  | [], t, j, _, hg, _ => hg
  | p :: h, t, j, hn, hg, hp => by
    refine tabH_none (t := putT t p.1 p.2) hn.2.2.2 ?_ (fun q hq => hp q (List.mem_cons_of_mem _ hq))
    rw [get_put j (get_none hn.2.1), if_neg (hp p (List.mem_cons_self ..))]
    exact hg
theorem tabH_mem : ∀ {h : List (Int × List Int)} {t : Tab} {j : Int} {v : List Int}, NewH t h → (j, v) ∈ h → getT (tabH t h) j = some v
  | p :: h, t, j, v, hn, hm => by
    rcases List.mem_cons.1 hm with e | hm
    · subst e
      refine tabH_old (t := putT t j v) hn.2.2.2 ?_
      rw [get_put j (get_none hn.2.1), if_pos rfl]
    · exact tabH_mem (t := putT t p.1 p.2) hn.2.2.2 hm
/-- The rows of a list as jobs 0, 1, .. -/
def ofRow : Int → List (List Int) → List (Int × List Int)
  | _, [] => []
  | i, x :: l => (i, x) :: ofRow (i + 1) l
theorem ofRow_len : ∀ (i : Int) (l : List (List Int)), (ofRow i l).length = l.length
  | _, [] => rfl
  | i, x :: l => by rw [ofRow, List.length_cons, ofRow_len, List.length_cons]
theorem ofRow_snoc : ∀ (i : Int) (l : List (List Int)) (x : List Int), ofRow i (l ++ [x]) = ofRow i l ++ [(i + l.length, x)]
  | i, [], x => by simp [ofRow]
  | i, y :: l, x => by
    rw [List.cons_append, ofRow, ofRow_snoc, ofRow, List.cons_append, List.length_cons]
    congr 4
    omega
theorem ofRow_mem : ∀ {i : Int} {l : List (List Int)} {k : Nat} {x : List Int}, l[k]? = some x → (i + k, x) ∈ ofRow i l
  | i, y :: l, 0, x, h => by
    simp only [List.getElem?_cons_zero, Option.some.injEq] at h
    subst h
    rw [ofRow]
    simp
  | i, y :: l, k + 1, x, h => by
    rw [List.getElem?_cons_succ] at h
    have h1 := ofRow_mem (i := i + 1) h
    rw [ofRow]
    refine List.mem_cons_of_mem _ ?_
    rw [show i + ((k + 1 : Nat) : Int) = i + 1 + (k : Int) by omega]
    exact h1
theorem ofRow_lt : ∀ {i : Int} {l : List (List Int)} {p : Int × List Int}, p ∈ ofRow i l → i ≤ p.1 ∧ p.1 < i + l.length
  | i, y :: l, p, h => by
    rw [ofRow] at h
    rcases List.mem_cons.1 h with e | h
    · subst e
      simp only [List.length_cons]
      omega
    · have := ofRow_lt h
      simp only [List.length_cons]
      omega
/-- What is in the file behind a fall and an opening. -/
theorem fall_take {h : List (Int × List Int)} {j : Int} {d : List Int} (hn : NewH [] h) (hj : 0 ≤ j) (hj1 : j < 16) (hg : getT (tabH [] h) j = none) (hl : d.length ≤ 60000) (k : Nat) (hk : k ≤ (recL j d).length) :
    ∃ h', (h' = h ∨ h' = h ++ [(j, d)]) ∧ NewH [] h' ∧ Opened (recs h ++ (recL j d).take k) (tabH [] h') (recs h').length ∧ (recs h ++ (recL j d).take k).take (recs h').length = recs h' := by
  rcases opened_fall hn hj hj1 hg hl k hk with ⟨h1, h2⟩ | ⟨h1, h2⟩
  · exact ⟨h, .inl rfl, hn, h2, by rw [List.take_left]⟩
  · refine ⟨h ++ [(j, d)], .inr rfl, newH_snoc hn hj hj1 hg hl, h2, ?_⟩
    rw [h1, List.take_length, recs_snoc, List.take_length]
end Go.Proofs.Ytfcpnjoiloahcaa.Bk
namespace Go.Proofs.Ytfcpnjoiloahcaa.Mk
open Go.RowKit Go.Proofs.YtfcpnjoiloahcaaW.PrintWords Go.Proofs.YtfcpnjoiloahcaaW.PrintLast Go.Proofs.YtfcpnjoiloahcaaW.PrintMore Go.Proofs.Ytfcpnjoiloahcaa.B Go.Proofs.Ytfcpnjoiloahcaa.Ta Go.Proofs.Ytfcpnjoiloahcaa.Fs Go.Proofs.Ytfcpnjoiloahcaa.Sp Go.Proofs.Ytfcpnjoiloahcaa.S
set_option linter.unusedVariables false
set_option linter.unusedSimpArgs false
/-! ### The file -/
def FileM (g : Nat) (room : Int) (s : List Int) (q : List (Int × List Int)) : Assn := fun w own => Fr.FM w g own room s q ∧ FOk room s q
theorem FileM.firm {g : Nat} {room : Int} {s : List Int} {q : List (Int × List Int)} : Firm (FileM g room s q) := ⟨fun h hk hd => ⟨h.1.move hk hd, h.2⟩, fun h => h.1.lt.2.2⟩
section
variable {W0 w w1 : World} {N : Nat → Prop} {R : Assn} {g gB gF : Nat} {room size : Int} {s : List Int} {q : List (Int × List Int)} {t : Tab}
theorem mok (h : AtP W0 N w (Star (FileM g room s q) R)) : FOk room s q := by
  obtain ⟨own, h1, h2⟩ := h.get
  exact h1.2
theorem m_bytes (h : AtP W0 N w (Star (FileM g room s q) R)) (b : List Int) (n : Nat) (hb : over q s = b) (hn : b.length = n) :
    Calls Try.prog 27 #[.pointer (some ⟨g, 0, none⟩)] w fun e w' => ∃ A c, e = .returned (.slice A n c) ∧ kU8.C w' A n b ∧ n ≤ c ∧ (∀ a, A = some a → w.heap.size ≤ a.block ∧ a.block < w'.heap.size) ∧ Below w.heap.size w w' := by
  subst hb
  subst hn
  obtain ⟨own, h1, h2⟩ := h.get
  refine (Fr.bytes_calls h1.1 h1.2).mono ?_
  rintro e w' ⟨v, rfl, hu, hb⟩
  obtain ⟨A, c, rfl, hlc, hC, hA⟩ := hu.reads
  exact ⟨A, c, rfl, hC, hlc, hA, hb⟩
theorem m_sync (h : AtP W0 N w (Star (FileM g room s q) R)) (hR : Firm R) (b : List Int) (hb : over q s = b) : Calls Try.prog 50 #[.pointer (some ⟨g, 0, none⟩)] w fun e w' => e = .returned (.tuple #[]) ∧ AtP W0 N w' (Star (FileM g room b []) R) := by
  subst hb
  refine h.run (Below.refl _ _) FileM.firm hR (fun own h1 _ _ => (Fr.sync_calls h1.1 h1.2).mono ?_)
  rintro e w' ⟨rfl, ⟨o', h2, h3⟩, h4⟩
  exact ⟨rfl, ⟨o', ⟨h2, (mok h).sync⟩, h3⟩, h4⟩
theorem m_cut (h : AtP W0 N w (Star (FileM g room s q) R)) (hR : Firm R) (n : Nat) (hn : n ≤ (over q s).length) : Calls Try.prog 44 #[.pointer (some ⟨g, 0, none⟩), .int .i64 n] w fun e w' => e = .returned (.int .i64 0) ∧ AtP W0 N w' (Star (FileM g room ((over q s).take n) []) R) := by
  have hc : cErr (over q s).length n = 0 := if_neg (by omega)
  refine h.run (Below.refl _ _) FileM.firm hR (fun own h1 _ _ => (Fr.cut_calls h1.1 h1.2 n).mono ?_)
  rintro e w' ⟨rfl, ⟨o', h2, h3⟩, h4⟩
  have e1 : cutS s q n = (over q s).take n := by rw [cutS, if_pos hc, Int.toNat_natCast]
  have e2 : cutQ s q n = [] := if_pos hc
  rw [e1, e2] at h2
  exact ⟨by rw [hc], ⟨o', ⟨h2, (mok h).cut n⟩, h3⟩, h4⟩
theorem m_write (h : AtP W0 N w1 (Star (FileM g room s q) R)) (hb : Below w1.heap.size w1 w) (hR : Firm R) (hql : q.length ≤ 1000000) (i : Int) (hi0 : -9223372036854775808 ≤ i) (hi1 : i ≤ 9223372036854775807) (A : Option Addr) (n cap : Nat) (c : List Int) (hn : c.length = n) (hcl : n ≤ 1000000) (hC : kU8.C w A n c) (hby : By c) (r : Int) (hr : wErr room (over q s).length i n = r) :
    Calls Try.prog 46 #[.pointer (some ⟨g, 0, none⟩), .int .i64 i, .slice A n cap] w fun e w' => e = .returned (.int .i64 r) ∧ AtP W0 N w' (Star (FileM g room s (wrQ room s q i c)) R) := by
  subst hn
  subst hr
  refine h.run hb FileM.firm hR (fun own h1 hl _ => (Fr.write_calls h1.1 h1.2 hql i hi0 hi1 A cap c hcl hC).mono ?_)
  rintro e w' ⟨rfl, ⟨o', h2, h3⟩, h4⟩
  exact ⟨rfl, ⟨o', ⟨h2, (mok h).writeAny i hby⟩, fun k hk => (h3 k hk).imp id (fun h => Nat.le_trans hb.size h)⟩, h4⟩
theorem m_crash (h : AtP W0 N w1 (Star (FileM g room s q) R)) (hb : Below w1.heap.size w1 w) (hR : Firm R) (B : Option Addr) (n kc : Nat) (keep : List Int) (hn : keep.length = n) (hK : (Kd.int .i64).C w B n keep) (hkr : ∀ x ∈ keep, -9223372036854775808 ≤ x ∧ x ≤ 9223372036854775807) (b : List Int) (hf : fallen keep 0 q s = b) :
    Calls Try.prog 22 #[.pointer (some ⟨g, 0, none⟩), .slice B n kc] w fun e w' => e = .returned (.tuple #[]) ∧ AtP W0 N w' (Star (FileM g room b []) R) := by
  subst hn
  subst hf
  refine h.run hb FileM.firm hR (fun own h1 hl ho => (Fr.crash_calls h1.1 h1.2 B kc keep hK hkr).mono ?_)
  rintro e w' ⟨rfl, ⟨o', h2, h3⟩, h4⟩
  exact ⟨rfl, ⟨o', ⟨h2, (mok h).crash keep⟩, fun k hk => (h3 k hk).imp id (fun h => Nat.le_trans hb.size h)⟩, h4⟩
/-- How many bytes are sure. -/
theorem m_safe (h : AtP W0 N w (Star (FileM g room s q) R)) : ∃ A c, w.cell? ⟨g, 1, none⟩ = some (.slice A s.length c) ∧ s.length ≤ c := by
  obtain ⟨own, ⟨⟨v1, v2, S1, S2, hh, hu, -⟩, -⟩, h2⟩ := h.get
  obtain ⟨A, c, rfl, hlc, -⟩ := hu.reads
  exact ⟨A, c, by simp [World.cell?, hh], hlc⟩
end
/-! ### The book -/
def MB (w : World) (g gF : Nat) (size : Int) (own : Nat → Prop) (is : Nat → Bool) (dat : Nat → List Int) : Prop :=
  ∃ (cs : Array Value) (V : Nat → Prop), w.heap[g]? = some (.cells cs 92 (0, 0)) ∧ cs.size = 34 ∧ cs[0]? = some (.pointer (some ⟨gF, 0, none⟩)) ∧ cs[1]? = some (.int .i64 size) ∧
    (∀ i, i < 16 → cs[2 + i]? = some (.bool (is i))) ∧
    (∀ i, i < 16 → ∃ A c, cs[18 + i]? = some (.slice A (dat i).length c) ∧ (dat i).length ≤ c ∧ kU8.C w A (dat i).length (dat i) ∧ ∀ a, A = some a → V a.block ∧ a.block < w.heap.size) ∧
    (∀ k, V k → own k ∧ k ≠ g) ∧ own g ∧ ∀ k, own k → k < w.heap.size
def MBA (g gF : Nat) (size : Int) (is : Nat → Bool) (dat : Nat → List Int) : Assn := fun w own => MB w g gF size own is dat ∧ ∀ i, i < 16 → By (dat i) ∧ (dat i).length ≤ 1000000
def upd {α : Type} (f : Nat → α) (i : Nat) (x : α) : Nat → α := fun k => if k = i then x else f k
theorem at_set {cs : Array Value} {i j : Nat} {v u : Value} (h : cs[i]? = some u) (hne : i ≠ j) : (cs.setIfInBounds j v)[i]? = some u := by
  rw [Array.getElem?_setIfInBounds_ne (Ne.symm hne)]
  exact h
theorem at_set_same {cs : Array Value} {j : Nat} {v : Value} (h : j < cs.size) : (cs.setIfInBounds j v)[j]? = some v := by
  simp [h]
section
variable {W0 w w' w1 : World} {N own : Nat → Prop} {R : Assn} {g gB gF : Nat} {room size : Int} {is : Nat → Bool} {dat : Nat → List Int} {s : List Int} {q : List (Int × List Int)} {t : Tab}
theorem MB.move {S : Nat → Prop} (h : MB w g gF size own is dat) (hk : Keep S w w') (hd : ∀ k, own k → ¬ S k) : MB w' g gF size own is dat := by
  obtain ⟨cs, V, h1, h2, h3, h4, h5, h6, h7, h8, h9⟩ := h
  refine ⟨cs, V, (hk.block g (blk_lt h1) (hd g h8)).trans h1, h2, h3, h4, h5, fun i hi => ?_, h7, h8, fun k hk2 => Nat.lt_of_lt_of_le (h9 k hk2) hk.size⟩
  obtain ⟨A, c, e1, e2, e3, e4⟩ := h6 i hi
  exact ⟨A, c, e1, e2, C_blk e3 (fun a ha => hk.block _ (e4 a ha).2 (hd _ (h7 _ (e4 a ha).1).1)), fun a ha => ⟨(e4 a ha).1, Nat.lt_of_lt_of_le (e4 a ha).2 hk.size⟩⟩
theorem MB.lt (h : MB w g gF size own is dat) : ∀ k, own k → k < w.heap.size := by
  obtain ⟨cs, V, h1, h2, h3, h4, h5, h6, h7, h8, h9⟩ := h
  exact h9
theorem MBA.firm : Firm (MBA g gF size is dat) := ⟨fun h hk hd => ⟨h.1.move hk hd, h.2⟩, fun h => h.1.lt⟩
theorem MB.setIs (h : MB w g gF size own is dat) {i : Nat} (hi : i < 16) (b : Bool) : MB (w.setCell ⟨g, 2 + i, none⟩ (.bool b)) g gF size own (upd is i b) dat := by
  obtain ⟨cs, V, h1, h2, h3, h4, h5, h6, h7, h8, h9⟩ := h
  refine ⟨cs.setIfInBounds (2 + i) (.bool b), V, heap_setCell_same w g (2 + i) cs _ _ h1, by simpa using h2, at_set h3 (by omega), at_set h4 (by omega), fun k hk => ?_, fun k hk => ?_, h7, h8, fun k hk => by simpa using h9 k hk⟩
  · unfold upd
    by_cases e : k = i
    · subst e; rw [if_pos rfl]; exact at_set_same (by omega)
    · rw [if_neg e]; exact at_set (h5 k hk) (by omega)
  · obtain ⟨A, c, e1, e2, e3, e4⟩ := h6 k hk
    exact ⟨A, c, at_set e1 (by omega), e2, C_blk e3 (fun a ha => Below.heap_setCell _ _ _ _ (h7 _ (e4 a ha).1).2), fun a ha => ⟨(e4 a ha).1, by simpa using (e4 a ha).2⟩⟩
theorem MB.setSize (h : MB w g gF size own is dat) (n : Int) : MB (w.setCell ⟨g, 1, none⟩ (.int .i64 n)) g gF n own is dat := by
  obtain ⟨cs, V, h1, h2, h3, h4, h5, h6, h7, h8, h9⟩ := h
  refine ⟨cs.setIfInBounds 1 (.int .i64 n), V, heap_setCell_same w g 1 cs _ _ h1, by simpa using h2, at_set h3 (by omega), at_set_same (by omega), fun k hk => at_set (h5 k hk) (by omega), fun k hk => ?_, h7, h8, fun k hk => by simpa using h9 k hk⟩
  obtain ⟨A, c, e1, e2, e3, e4⟩ := h6 k hk
  exact ⟨A, c, at_set e1 (by omega), e2, C_blk e3 (fun a ha => Below.heap_setCell _ _ _ _ (h7 _ (e4 a ha).1).2), fun a ha => ⟨(e4 a ha).1, by simpa using (e4 a ha).2⟩⟩
theorem MB.setData (h : MB w g gF size own is dat) {i : Nat} (hi : i < 16) {A : Option Addr} {c : Nat} {d : List Int} (hl : d.length ≤ c) (hC : kU8.C w A d.length d) (hA : ∀ a, A = some a → a.block ≠ g ∧ a.block < w.heap.size) :
    MB (w.setCell ⟨g, 18 + i, none⟩ (.slice A d.length c)) g gF size (fun k => own k ∨ ∃ a, A = some a ∧ k = a.block) is (upd dat i d) := by
  obtain ⟨cs, V, h1, h2, h3, h4, h5, h6, h7, h8, h9⟩ := h
  refine ⟨cs.setIfInBounds (18 + i) (.slice A d.length c), fun k => V k ∨ ∃ a, A = some a ∧ k = a.block, heap_setCell_same w g (18 + i) cs _ _ h1, by simpa using h2, at_set h3 (by omega), at_set h4 (by omega), fun k hk => at_set (h5 k hk) (by omega), fun k hk => ?_, fun k hk => ?_, .inl h8, fun k hk => ?_⟩
  · unfold upd
    by_cases e : k = i
    · subst e
      rw [if_pos rfl]
      exact ⟨A, c, at_set_same (by omega), hl, C_blk hC (fun a ha => Below.heap_setCell _ _ _ _ (hA a ha).1), fun a ha => ⟨.inr ⟨a, ha, rfl⟩, by simpa using (hA a ha).2⟩⟩
    · rw [if_neg e]
      obtain ⟨A2, c2, e1, e2, e3, e4⟩ := h6 k hk
      exact ⟨A2, c2, at_set e1 (by omega), e2, C_blk e3 (fun a ha => Below.heap_setCell _ _ _ _ (h7 _ (e4 a ha).1).2), fun a ha => ⟨.inl (e4 a ha).1, by simpa using (e4 a ha).2⟩⟩
  · rcases hk with hk | ⟨a, ha, rfl⟩
    · exact ⟨.inl (h7 k hk).1, (h7 k hk).2⟩
    · exact ⟨.inr ⟨a, ha, rfl⟩, (hA a ha).1⟩
  · rcases hk with hk | ⟨a, ha, rfl⟩
    · simpa using h9 k hk
    · simpa using (hA a ha).2
/-- A book's block that is new. -/
theorem MB.made (gF : Nat) (w : World) : MB (w.alloc (.cells (#[.pointer (some ⟨gF, 0, none⟩), .int .i64 0] ++ Array.replicate 16 (.bool false) ++ Array.replicate 16 (.slice none 0 0)) 92)) w.heap.size gF 0 (fun k => k = w.heap.size) (fun _ => false) (fun _ => []) := by
  refine ⟨_, fun _ => False, heap_alloc_new _ _, by simp, by simp, by simp, fun i hi => ?_, fun i hi => ⟨none, 0, ?_, Nat.le_refl _, C_nil _ _, fun a ha => by cases ha⟩, fun k h => h.elim, rfl, fun k hk => by rw [hk, World.size_alloc]; omega⟩
  · have e1 : (#[Value.pointer (some ⟨gF, 0, none⟩), .int .i64 0] ++ Array.replicate 16 (Value.bool false)).size = 18 := by simp
    rw [Array.getElem?_append_left (by omega), Array.getElem?_append_right (by simp)]
    simp only [List.size_toArray, List.length_cons, List.length_nil]
    rw [show 2 + i - (0 + 1 + 1) = i by omega]
    simp [Array.getElem?_replicate, hi]
  · have e1 : (#[Value.pointer (some ⟨gF, 0, none⟩), .int .i64 0] ++ Array.replicate 16 (Value.bool false)).size = 18 := by simp
    rw [Array.getElem?_append_right (by omega), e1, show 18 + i - 18 = i by omega]
    simp [Array.getElem?_replicate, hi]
/-- What a book's block holds. -/
theorem mb_cells (h : AtP W0 N w (Star (MBA g gF size is dat) R)) :
    w.cell? ⟨g, 0, none⟩ = some (.pointer (some ⟨gF, 0, none⟩)) ∧ w.cell? ⟨g, 1, none⟩ = some (.int .i64 size) ∧ (∀ j, w.frozen? ⟨g, j, none⟩ = false) ∧ (∀ i, i < 16 → w.cell? ⟨g, 2 + i, none⟩ = some (.bool (is i))) ∧
      ∀ i, i < 16 → ∃ A c, w.cell? ⟨g, 18 + i, none⟩ = some (.slice A (dat i).length c) ∧ (dat i).length ≤ c ∧ kU8.C w A (dat i).length (dat i) := by
  obtain ⟨own, ⟨⟨cs, V, h1, h2, h3, h4, h5, h6, h7, h8, h9⟩, hok⟩, -⟩ := h.get
  refine ⟨by rw [cell_of_row w g 0 cs _ _ h1]; exact h3, by rw [cell_of_row w g 1 cs _ _ h1]; exact h4, fun j => blk_frozen h1 j, fun i hi => by rw [cell_of_row w g _ cs _ _ h1]; exact h5 i hi, fun i hi => ?_⟩
  obtain ⟨A, c, e1, e2, e3, e4⟩ := h6 i hi
  exact ⟨A, c, by rw [cell_of_row w g _ cs _ _ h1]; exact e1, e2, e3⟩
theorem mb_ok (h : AtP W0 N w (Star (MBA g gF size is dat) R)) : ∀ i, i < 16 → By (dat i) ∧ (dat i).length ≤ 1000000 := by
  obtain ⟨own, h1, -⟩ := h.get
  exact h1.2
theorem mb_size (h : AtP W0 N w (Star (MBA g gF size is dat) R)) (hR : Firm R) (n : Int) : AtP W0 N (w.setCell ⟨g, 1, none⟩ (.int .i64 n)) (Star (MBA g gF n is dat) R) :=
  h.step hR (fun own h1 => ⟨⟨own, ⟨h1.1.setSize n, h1.2⟩, fun k hk => .inl hk⟩, (Keep.refl _ _).setCell _ _ (fun _ => by obtain ⟨cs, V, e1, e2, e3, e4, e5, e6, e7, e8, e9⟩ := h1.1; exact e8)⟩)
theorem mb_is (h : AtP W0 N w (Star (MBA g gF size is dat) R)) (hR : Firm R) {i : Nat} (hi : i < 16) (b : Bool) : AtP W0 N (w.setCell ⟨g, 2 + i, none⟩ (.bool b)) (Star (MBA g gF size (upd is i b) dat) R) :=
  h.step hR (fun own h1 => ⟨⟨own, ⟨h1.1.setIs hi b, h1.2⟩, fun k hk => .inl hk⟩, (Keep.refl _ _).setCell _ _ (fun _ => by obtain ⟨cs, V, e1, e2, e3, e4, e5, e6, e7, e8, e9⟩ := h1.1; exact e8)⟩)
theorem mb_data (h : AtP W0 N w1 (Star (MBA g gF size is dat) R)) (hb : Below w1.heap.size w1 w) (hR : Firm R) {i : Nat} (hi : i < 16) {A : Option Addr} {c : Nat} {d : List Int} (hl : d.length ≤ c) (hC : kU8.C w A d.length d) (hA : ∀ a, A = some a → w1.heap.size ≤ a.block ∧ a.block < w.heap.size) (hby : By d) (hdl : d.length ≤ 1000000) :
    AtP W0 N (w.setCell ⟨g, 18 + i, none⟩ (.slice A d.length c)) (Star (MBA g gF size is (upd dat i d)) R) := by
  refine h.step hR (fun own h1 => ?_)
  have hg : own g ∧ g < w1.heap.size := by
    obtain ⟨cs, V, e1, e2, e3, e4, e5, e6, e7, e8, e9⟩ := h1.1
    exact ⟨e8, e9 g e8⟩
  have h2 := h1.1.move (Keep.of_below (S := fun _ => False) hb) (fun _ _ => id)
  refine ⟨⟨_, ⟨h2.setData hi hl hC (fun a ha => ⟨fun e => by have := (hA a ha).1; omega, (hA a ha).2⟩), fun k hk => ?_⟩, fun k hk => ?_⟩, (Keep.of_below hb).setCell _ _ (fun _ => hg.1)⟩
  · unfold upd
    split
    · exact ⟨hby, hdl⟩
    · exact h1.2 k hk
  · rcases hk with hk | ⟨a, ha, rfl⟩
    · exact .inl hk
    · exact .inr (hA a ha).1
end
/-! ### By tables -/
def isT (t : Tab) (i : Nat) : Bool := (getT t i).isSome
def datT (t : Tab) (i : Nat) : List Int := (getT t i).getD []
theorem isT_put {t : Tab} {i : Nat} {d : List Int} (hg : getT t i = none) : upd (isT t) i true = isT (putT t i d) := by
  funext k
  unfold upd isT
  rw [get_put _ (get_none hg)]
  by_cases e : k = i
  · subst e; rw [if_pos rfl, if_pos rfl]; rfl
  · rw [if_neg e, if_neg (by omega)]
theorem datT_put {t : Tab} {i : Nat} {d : List Int} (hg : getT t i = none) : upd (datT t) i d = datT (putT t i d) := by
  funext k
  unfold upd datT
  rw [get_put _ (get_none hg)]
  by_cases e : k = i
  · subst e; rw [if_pos rfl, if_pos rfl]; rfl
  · rw [if_neg e, if_neg (by omega)]
theorem isT_nil : isT [] = fun _ => false := rfl
theorem datT_nil : datT [] = fun _ => [] := rfl
abbrev TabM (g gF : Nat) (size : Int) (t : Tab) : Assn := MBA g gF size (isT t) (datT t)
abbrev BookM (g gF : Nat) (room : Int) (s : List Int) (q : List (Int × List Int)) (t : Tab) : Assn := Star (TabM g gF s.length t) (FileM gF room s q)
theorem BookM.firm {g gF : Nat} {room : Int} {s : List Int} {q : List (Int × List Int)} {t : Tab} : Firm (BookM g gF room s q t) := MBA.firm.star FileM.firm
end Go.Proofs.Ytfcpnjoiloahcaa.Mk
