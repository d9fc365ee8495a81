/- What the sums come to. -/
import Derived.Test.YtfcpnjoiloahcaaGs
import Derived.Test.YtfcpnjoiloahcaaProg
import Derived.Test.YtfcpnjoiloahcaaU
import Derived.Test.YtfcpnjoiloahcaaQ
import Derived.Test.YtfcpnjoiloahcaaE
namespace Go.Proofs.Ytfcpnjoiloahcaa.Gc
open Go.RowKit Go.Proofs.YtfcpnjoiloahcaaW.PrintWords Go.Proofs.YtfcpnjoiloahcaaW.PrintLast Go.Proofs.YtfcpnjoiloahcaaW.PrintMore Go.Proofs.Ytfcpnjoiloahcaa.B Go.Proofs.Ytfcpnjoiloahcaa.Ls Go.Proofs.Ytfcpnjoiloahcaa.Gs Go.Proofs.Ytfcpnjoiloahcaa.S
set_option linter.unusedVariables false
set_option linter.unusedSimpArgs false
theorem infoU8 : (Try.prog.info? 5).map (fun i => (i.zero, i.size, i.bytes)) = some (some (.int .u8 0), 1, 1) := by kernel_rfl
abbrev kL : Kd (List Int) := Kd.slice 5 kU8
theorem kL_get {w : World} {ad : Addr} {n : Nat} {ps : List (List Int)} (h : kL.C w (some ad) n ps) {k : Nat} {l : List Int} (hk : ps[k]? = some l) : ∃ A c, w.cell? (ad.add k) = some (.slice A l.length c) ∧ l.length ≤ c ∧ kU8.C w A l.length l := by
  have hj := (List.getElem?_eq_some_iff.1 hk).1
  obtain ⟨ad', e, hc⟩ := h.2.2 (by have := h.1; omega)
  injection e with e
  subst e
  obtain ⟨cs, h1, ⟨A, c, rfl, h2, h3⟩, h4⟩ := hc k l hk
  have g0 := h4 0 _ rfl
  have hs : kL.sz = 1 := rfl
  rw [hs, Nat.mul_one, Nat.add_zero] at g0
  exact ⟨A, c, g0, h2, h3⟩
set_option maxHeartbeats 4000000 in
set_option maxRecDepth 100000 in
theorem sum_calls (A : Option Addr) (c : Nat) (ps : List (List Int)) (w : World) (hC : kL.C w A ps.length ps) (hby : ∀ l ∈ ps, By l) :
    Calls Try.prog 69 #[.slice A ps.length c] w fun e w' => e = .returned (.int .u32 (sumL ps.flatten)) ∧ w = w' := by
  have HC := Aside0.mk hC
  have HBY := Aside0.mk hby
  have hpl := hC.2.1
  clear hC hby
  go_enter Try.func69, Try.ntmps69
  go_wp2_with fail
  go_loopw [3, 10] (fun vx vi wr => wr = w ∧ ∃ (k : Nat) (x : Int), k ≤ ps.length ∧ vi = .int .i64 k ∧ vx = .int .u32 x ∧ 0 ≤ x ∧ x < 4294967296 ∧ Aside0 (x = crcL (ps.take k).flatten 4294967295)) (fun _ vi _ => ps.length - (intOf vi).toNat)
  case atStart => exact ⟨rfl, 0, _, by omega, rfl, rfl, by decide, by decide, ⟨rfl⟩⟩
  case round =>
    obtain ⟨rfl, k, x, hk, rfl, rfl, hx0, hx1, HX⟩ := hrel
    by_cases hlt : k < ps.length
    · obtain ⟨l, hl⟩ : ∃ l, ps[k]? = some l := ⟨_, List.getElem?_eq_getElem hlt⟩
      obtain ⟨ad, rfl⟩ : ∃ ad, A = some ad := by obtain ⟨ad, e, _⟩ := HC.out.2.2 (by omega); exact ⟨ad, e⟩
      obtain ⟨A1, c1, q1, hc1, hC1⟩ := kL_get HC.out hl
      have HC1 := Aside0.mk hC1
      have hll := hC1.2.1
      have HL := Aside0.mk (show crcL (ps.take (k + 1)).flatten 4294967295 = crcL l x by
        obtain ⟨hl1, hl2⟩ := List.getElem?_eq_some_iff.1 hl
        rw [List.take_succ_eq_append_getElem hl1, hl2, List.flatten_append, crcL_append, ← HX.out]
        simp)
      have HB1 := Aside0.mk (HBY.out l (List.mem_of_getElem? hl))
      clear hC1 hl HX
      go_wp2_with fail
      go_loopw [3, 16] (fun vx vi wr' => wr' = wr ∧ ∃ (i : Nat) (y : Int), i ≤ l.length ∧ vi = .int .i64 i ∧ vx = .int .u32 y ∧ 0 ≤ y ∧ y < 4294967296 ∧ Aside0 (y = crcL (l.take i) x)) (fun _ vi _ => l.length - (intOf vi).toNat)
      case atStart => exact ⟨rfl, 0, x, by omega, rfl, rfl, hx0, hx1, ⟨rfl⟩⟩
      case round =>
        obtain ⟨rfl, i, y, hi, rfl, rfl, hy0, hy1, HY⟩ := hrel
        by_cases hil : i < l.length
        · obtain ⟨b, hb⟩ : ∃ b, l[i]? = some b := ⟨_, List.getElem?_eq_getElem hil⟩
          obtain ⟨ad1, rfl⟩ : ∃ ad, A1 = some ad := by obtain ⟨ad, e, _⟩ := HC1.out.2.2 (by omega); exact ⟨ad, e⟩
          have q2 := C_cell HC1.out hb
          obtain ⟨hb0, hb1⟩ := HB1.out.at hb
          have HT := Aside0.mk (show crcL (l.take (i + 1)) x = crcByte y b by rw [crcL_take x hb, HY.out])
          clear hb HY
          go_wp2_with fail
          have hxr := xor_range y b
          obtain ⟨z0, hz0⟩ : ∃ z, Go.bits .xor .u32 y b = z := ⟨_, rfl⟩
          rw [hz0] at hxr
          rw [hz0]
          have HZ := Aside0.mk hz0
          clear hz0
          obtain ⟨hz00, hz01⟩ := hxr
          go_loopw [3, 24] (fun vx vi wr' => wr' = wr ∧ ∃ (j : Nat) (z : Int), j ≤ 8 ∧ vi = .int .i64 j ∧ vx = .int .u32 z ∧ 0 ≤ z ∧ z < 4294967296 ∧ Aside0 (crcBits (8 - j) z = crcByte y b)) (fun _ vi _ => 8 - (intOf vi).toNat)
          case atStart => exact ⟨rfl, 0, z0, by omega, rfl, rfl, hz00, hz01, ⟨by rw [← HZ.out]; rfl⟩⟩
          case round =>
            obtain ⟨rfl, j, z, hj, rfl, rfl, hz0, hz1, HZ⟩ := hrel
            by_cases hj8 : j < 8
            · go_wp2
              go_roundw
              case rel =>
                have hT : Go.bits .xor .u32 (z / 2) (Go.bits .and .u32 3988292384 ((-(Go.bits .and .u32 z 1)) % 4294967296)) = crcBit z := by rw [poly_and z hz0 hz1, crcBit_impl z hz0 hz1]
                rw [hT]
                have hr := crcBit_range z hz0 hz1
                exact ⟨by first | rfl | trivial, j + 1, _, by omega, by go_num, rfl, hr.1, hr.2, ⟨by rw [← HZ.out, show 8 - j = (8 - (j + 1)) + 1 by omega]; rfl⟩⟩
              case measure => simp [intOf]; omega
            · have hje : j = 8 := by omega
              subst hje
              go_wp2
              go_roundw
              case rel => exact ⟨by first | rfl | trivial, i + 1, z, by omega, by go_num, rfl, hz0, hz1, ⟨by rw [HT.out, ← HZ.out]; rfl⟩⟩
              case measure => simp [intOf]; omega
        · have hie : i = l.length := by omega
          subst hie
          go_wp2
          go_roundw
          case rel => exact ⟨by first | rfl | trivial, k + 1, y, by omega, by go_num, rfl, hy0, hy1, ⟨by rw [HL.out, HY.out, List.take_length]⟩⟩
          case measure => simp [intOf]; omega
    · have hke : k = ps.length := by omega
      subst hke
      go_wp2
      go_ret
      rw [List.take_length] at HX
      refine ⟨?_, rfl⟩
      rw [sumL, ← HX.out, xor32_comm]
      rfl
end Go.Proofs.Ytfcpnjoiloahcaa.Gc
