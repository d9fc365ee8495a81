/- FrameAll: the frames of bytes, laid again, are as many bytes as All says, and those. No condition. -/
import Derived.Test.YtmklopaleiennaaRows
import Derived.ProofKit
import Derived.OpenShut
import Derived.ShutString
import Derived.ChangeOld
import Derived.SizedLaws
import Derived.Test.YtmklopaleiennaaWSized
import Derived.Test.YtmklopaleiennaaGa
import Derived.Test.YtmklopaleiennaaK
import Derived.Test.YtmklopaleiennaaGg
import Derived.Test.YtmklopaleiennaaGo
namespace Go.Proofs.Ytmklopaleiennaa.FrameAll
open Go.ChangeShapes Go.WideShapes Go.ChangeAt Go.RowKit Go.Proofs.YtmklopaleiennaaW.PrintWords Go.Proofs.YtmklopaleiennaaW.PrintLast Go.Proofs.YtmklopaleiennaaW.PrintMore Go.Proofs.Ytmklopaleiennaa.B Go.Proofs.Ytmklopaleiennaa.Gs Go.Proofs.Ytmklopaleiennaa.Gc Go.Proofs.Ytmklopaleiennaa.O Go.Proofs.Ytmklopaleiennaa.Go1 Go.Proofs.Ytmklopaleiennaa.R Go.Proofs.Ytmklopaleiennaa.S Go.Proofs.Ytmklopaleiennaa.Ls
set_option linter.unusedVariables false
set_option linter.unusedSimpArgs false
theorem F_get {w : World} {A : Option Addr} {n : Nat} {m : List (Int × List Int)} (h : kF.C w A n m) {j : Nat} {k : Int} {b : List Int} (hj : m[j]? = some (k, b)) :
    ∃ (ad : Addr) (A2 : Option Addr) (c2 : Nat), A = some ad ∧ w.cell? (ad.add (j * 2)) = some (.int .u8 k) ∧ w.cell? ⟨(ad.add (j * 2)).block, (ad.add (j * 2)).off + 1, none⟩ = some (.slice A2 b.length c2) ∧ b.length ≤ c2 ∧ kU8.C w A2 b.length b := by
  have hl := (List.getElem?_eq_some_iff.1 hj).1
  obtain ⟨ad, e, hc⟩ := h.2.2 (by have := h.1; omega)
  obtain ⟨cs, h1, h2, h3⟩ := hc j _ hj
  obtain ⟨A2, c2, rfl, h4, h5⟩ := frame_K h2
  have g0 := h3 0 _ rfl
  have g1 := h3 1 _ rfl
  have hs : kF.sz = 2 := rfl
  rw [hs] at g0 g1
  rw [← Go.Proofs.YtmklopaleiennaaW.PrintWords.add_add] at g1
  exact ⟨ad, A2, c2, e, g0, g1, h4, h5⟩
theorem lays_snoc {m : List (Int × List Int)} {j : Nat} {k : Int} {b : List Int} (hj : m[j]? = some (k, b)) : laysL (m.take (j + 1)) = laysL (m.take j) ++ layL k b := by
  obtain ⟨hl, he⟩ := List.getElem?_eq_some_iff.1 hj
  rw [List.take_succ_eq_append_getElem hl, he]
  simp [laysL]
theorem lays_part (m : List (Int × List Int)) (j : Nat) : (laysL (m.take j)).length ≤ (laysL m).length := by
  have h : laysL (m.take j ++ m.drop j) = laysL (m.take j) ++ laysL (m.drop j) := by simp only [laysL, List.map_append, List.flatten_append]
  rw [List.take_append_drop] at h
  rw [h, List.length_append]
  exact Nat.le_add_right _ _
set_option maxHeartbeats 4000000 in
set_option maxRecDepth 100000 in
theorem walk (w : World) (A : Option Addr) (c : Nat) (b : List Int) (hC : kU8.C w A b.length b) (hc : b.length ≤ c) (hm : b.length * 1 ≤ 140737488351232) (hwf : ∀ x ∈ b, (Lit.int .u8 x).wf = true)
    (A' : Option Addr) (c' : Nat) (m : List (Int × List Int)) (hC' : kF.C w A' m.length m) (hc' : m.length ≤ c') (hok : (∀ v ∈ m, FrOk v) ∧ m.length ≤ 9223372036854775807) (_ : ∀ a, A' = some a → a.block < w.heap.size) :
    Calls Try.prog 13 #[.slice A b.length c, .slice A' m.length c'] w fun e w' => e = .returned (.bool true) ∧ Below w.heap.size w w' := by
  have HY := Aside0.mk (show By b from fun x hx => wf_u8 (hwf x hx))
  have HC := Aside0.mk hC
  have HC' := Aside0.mk hC'
  have HOK := Aside0.mk hok.1
  have hml := hok.2
  clear hwf hC hC' hok hm
  by_cases h1 : 2000 < b.length
  · go_enter Try.func13, Try.ntmps13
    go_wp2_with (first | (go_at_call 27; refine (awake_calls _).mono ?_; rintro e w1 ⟨rfl, hb1⟩))
    go_ret
    exact ⟨rfl, hb1⟩
  by_cases h2 : 20 < m.length
  · go_enter Try.func13, Try.ntmps13
    go_wp2_with (first | (go_at_call 27; refine (awake_calls _).mono ?_; rintro e w1 ⟨rfl, hb1⟩))
    go_ret
    exact ⟨rfl, hb1⟩
  have e1 : decide ((2000 : Int) < b.length) = false := by simp; omega
  have e2 : decide ((20 : Int) < m.length) = false := by simp; omega
  go_enter Try.func13, Try.ntmps13
  go_wp2_with (first | (go_at_call 27; refine (awake_calls _).mono ?_; rintro e w1 ⟨rfl, hb1⟩; have HB1 := Aside0.mk hb1; clear hb1))
  have HR1 := Aside0.mk (Kd.R_nil kU8 5 w1 w.heap.size (fun _ => True))
  go_loopw [5, 29] (fun vx vi wr => ∃ (k : Nat) (xs : List Int), k ≤ m.length ∧ vi = .int .i64 k ∧ Aside0 (xs = laysL (m.take k)) ∧ xs.length ≤ 510 * k ∧ Aside0 (kU8.R 5 wr w.heap.size (fun _ => True) vx xs) ∧ Aside0 (Below w.heap.size w wr) ∧ Aside0 (∀ p ∈ m.take k, p.2.length ≤ 500)) (fun _ vi _ => m.length - (intOf vi).toNat)
  case atStart => exact ⟨0, [], by omega, rfl, ⟨rfl⟩, by simp, HR1, HB1, ⟨fun p hp => by simp at hp⟩⟩
  case round =>
    clear HR1 HB1
    obtain ⟨k, xs, hk, rfl, HX, hxl, HR, HB, HS⟩ := hrel
    have hzw := HB.out.size
    by_cases hgo : k < m.length
    · obtain ⟨⟨kd, bb⟩, hp⟩ : ∃ p, m[k]? = some p := ⟨_, List.getElem?_eq_getElem hgo⟩
      obtain ⟨⟨hk0, hk1⟩, hbby⟩ := HOK.out _ (List.mem_of_getElem? hp)
      simp only at hk0 hk1 hbby
      obtain ⟨ad, A3, c3, rfl, q0, q1, hcc, hCb⟩ := F_get (Kd.C_below HC'.out HB.out) hp
      have HLS := Aside0.mk (lays_snoc hp)
      have HMT := Aside0.mk (show bb.length ≤ 500 → ∀ p ∈ m.take (k + 1), p.2.length ≤ 500 from fun hb p hp2 => by
        obtain ⟨hl, he⟩ := List.getElem?_eq_some_iff.1 hp
        rw [List.take_succ_eq_append_getElem hl, he] at hp2
        rcases List.mem_append.1 hp2 with h | h
        · exact HS.out p h
        · rw [List.mem_singleton] at h; rw [h]; exact hb)
      have HBB := Aside0.mk hbby
      obtain ⟨W, hW⟩ : ∃ W, W = wr.alloc (.cells #[.int .u8 kd, .slice A3 bb.length c3] 62) := ⟨_, rfl⟩
      have hwk : Below wr.heap.size wr W := by rw [hW]; exact (Below.refl _ _).alloc (Nat.le_refl _) _
      have hws : W.heap.size = wr.heap.size + 1 := by rw [hW]; exact World.size_alloc _ _
      have hwn : W.heap[wr.heap.size]? = some (.cells #[.int .u8 kd, .slice A3 bb.length c3] 62 (0, 0)) := by rw [hW]; exact heap_alloc_new _ _
      have HCb := Aside0.mk (Kd.C_below hCb hwk)
      have HWB := Aside0.mk (HB.out.trans (hwk.mono hzw))
      have HRW := Aside0.mk (Kd.R_below HR.out hwk)
      have HQ := Aside0.mk (show ∀ V, Below W.heap.size W V → V.cell? ⟨wr.heap.size, 0, none⟩ = some (.int .u8 kd) ∧ V.cell? ⟨wr.heap.size, 1, none⟩ = some (.slice A3 bb.length c3) from fun V hV => by
        have h := (hV.block wr.heap.size (by omega)).trans hwn
        exact ⟨by simp [World.cell?, h], by simp [World.cell?, h]⟩)
      clear hp hbby hCb hwk hwn
      by_cases h65 : 65536 < bb.length
      · go_wp2_with (first | (go_at_call 28; refine (lay_long kd A3 c3 bb _ h65).mono ?_; rintro e w2 ⟨rfl, rfl⟩))
        go_ret
        exact ⟨rfl, by rw [← hW]; exact HWB.out⟩
      obtain ⟨fl, hfl⟩ : ∃ fl, layL kd bb = fl := ⟨_, rfl⟩
      obtain ⟨n, hn⟩ : ∃ n, fl.length = n := ⟨_, rfl⟩
      have hnl : n = 6 + (putl bb.length).length + bb.length := by rw [← hn, ← hfl, lay_len]
      have hpl := (putl_three (n := bb.length) (by omega)).2
      have HFL := Aside0.mk hfl
      have HN := Aside0.mk hn
      clear hfl hn
      by_cases h500 : 500 < bb.length
      · clear hnl hpl
        go_wp2_with fail
        rw [← hW]
        clear hW
        go_wp2_with (first | (go_at_call 28; refine (lay_n kd hk0 hk1 A3 c3 bb bb.length rfl fl n HFL.out HN.out _ HCb.out hcc HBB.out (by omega)).mono ?_; rintro e w2 ⟨A2, c2, rfl, -, -, -, hb⟩; have HB2 := Aside0.mk hb; obtain ⟨x0, x1⟩ := HQ.out w2 hb; clear hb))
        go_ret
        exact ⟨rfl, HWB.out.trans (HB2.out.mono HWB.out.size)⟩
      have e500 : decide ((500 : Int) < bb.length) = false := by simp; omega
      have hn600 : n ≤ 509 := by omega
      clear hnl hpl
      go_wp2_with fail
      rw [← hW]
      clear hW
      go_wp2_with (first
        | (go_at_call 28; refine (lay_n kd hk0 hk1 A3 c3 bb bb.length rfl fl n HFL.out HN.out _ HCb.out hcc HBB.out (by omega)).mono ?_; rintro e w2 ⟨A2, c2, rfl, -, hC2, -, hb⟩; have HB2 := Aside0.mk (HWB.out.trans (hb.mono HWB.out.size)); obtain ⟨x0, x1⟩ := HQ.out w2 hb; have HC2 := Aside0.mk hC2; have HR2 := Aside0.mk (Kd.R_below HRW.out hb); clear hb hC2)
        | ((with_reducible refine gate_builtin (b := .append) (xs := #[.tmp 49, .tmp 50]) rfl ?_); at_builtin; refine Kd.R_append_rows (Kd.int .u8) (w0 := w) w.heap.size rfl (.tmp 49) (.tmp 50) 22 5 (.int .u8 0) 1 rfl Try.underlying22 infoU8 rfl (by decide) (by omega) u5 xs fl _ _ _ (fun _ => True) (fun _ => False) rfl rfl ?aO ?aR (fun _ _ h => h) (fun _ h => h.elim) ?aF ?aB ?aS ?aL ?_; (case aR => exact HC2.out); (case aB => exact HB2.out); (case aF => exact (fun _ _ => trivial)); (case aO => exact HR2.out); (case aS => (exact HB2.out.size)); (case aL => omega); (intro v3 w3 ho3 hb3 hg hat; have HO3 := Aside0.mk ho3; have HB3 := Aside0.mk hb3; clear ho3 hb3 hg hat)))
      go_roundw
      case rel => exact ⟨k + 1, xs ++ fl, by omega, by go_num, ⟨by rw [HLS.out, HX.out, HFL.out]⟩, by rw [List.length_append, HN.out]; omega, HO3, HB3, ⟨HMT.out (by omega)⟩⟩
      case measure => simp [intOf]; omega
    · have hke : k = m.length := by omega
      subst hke
      rw [List.take_length] at HX HS
      obtain ⟨X, hX⟩ : ∃ X, xs ++ b = X := ⟨_, rfl⟩
      obtain ⟨nx, hnx⟩ : ∃ nx, X.length = nx := ⟨_, rfl⟩
      have hnxb : nx ≤ 13000 := by rw [← hnx, ← hX, List.length_append]; omega
      have HBX := Aside0.mk (show By X by
        rw [← hX, HX.out]
        refine By.append (fun x hx => ?_) HY.out
        simp only [laysL, List.mem_flatten, List.mem_map] at hx
        obtain ⟨l, ⟨p, hp, rfl⟩, hx⟩ := hx
        exact lay_by (HOK.out p hp).1 (HOK.out p hp).2 x hx)
      have HXX := Aside0.mk hX
      have HNX := Aside0.mk hnx
      clear hX hnx
      go_wp2_with (first
        | ((with_reducible refine gate_builtin (b := .append) (xs := #[.tmp 53, .tmp 54]) rfl ?_); at_builtin; refine Kd.R_append_rows (Kd.int .u8) (w0 := w) w.heap.size rfl (.tmp 53) (.tmp 54) 22 5 (.int .u8 0) 1 rfl Try.underlying22 infoU8 rfl (by decide) (by omega) u5 xs b _ _ _ (fun _ => True) (fun _ => False) rfl rfl ?aO ?aR (fun _ _ h => h) (fun _ h => h.elim) ?aF ?aB ?aS ?aL ?_; (case aR => exact (Kd.C_below HC.out HB.out)); (case aB => exact HB.out); (case aF => exact (fun _ _ => trivial)); (case aO => exact HR.out); (case aS => (exact HB.out.size)); (case aL => omega); (intro v3 w3 ho3 hb3 hg hat; obtain ⟨Ax, cx, hvx, hcx, hCx⟩ := Kd.R_reads ho3; rw [HXX.out, HNX.out] at hvx hcx hCx; subst hvx; have HCX := Aside0.mk hCx; have HB3 := Aside0.mk hb3; clear ho3 hb3 hg hat hCx))
        | (go_at_call 32; refine (all_calls Ax cx X nx HNX.out _ HCX.out hcx HBX.out (by omega)).mono ?_; rintro e wg ⟨vg, l', mm, rfl, hall, hlm, hrg, hbg⟩; obtain ⟨Ag, cg, rfl, hcg, hCg⟩ := Kd.R_reads hrg; have HCG := Aside0.mk hCg; have HALL := Aside0.mk hall; have HBG := Aside0.mk (HB3.out.trans (hbg.mono HB3.out.size)); have HCXG := Aside0.mk (Kd.C_below HCX.out hbg); clear hrg hbg hCg hall))
      obtain ⟨hly, hmx, hlok⟩ := HALL.out.lays HBX.out
      have hst := AllR.starts (l := m) (rest := b) (fun p hp => by have := HS.out p hp; omega) (by rw [← HX.out, HXX.out]; exact HALL.out)
      rw [HNX.out] at hmx
      have HLY := Aside0.mk hly
      have HLOK := Aside0.mk hlok
      have hgl : l'.length ≤ 13000 := by omega
      have HR4 := Aside0.mk (Kd.R_nil kU8 5 wg wg.heap.size (fun _ => True))
      have HB4 := Aside0.mk (Below.refl wg.heap.size wg)
      have hlx : (laysL l').length ≤ 13000 := by rw [hly, List.length_take, HNX.out]; omega
      have HLX := Aside0.mk hlx
      clear hly hlok hlx
      go_loopw [12, 63] (fun vy vi wr => ∃ (k : Nat) (ys : List Int), k ≤ l'.length ∧ vi = .int .i64 k ∧ Aside0 (ys = laysL (l'.take k)) ∧ Aside0 (kU8.R 5 wr wg.heap.size (fun _ => True) vy ys) ∧ Aside0 (Below wg.heap.size wg wr)) (fun _ vi _ => l'.length - (intOf vi).toNat)
      case atStart => exact ⟨0, [], by omega, rfl, ⟨rfl⟩, HR4, HB4⟩
      case round =>
        clear HR4 HB4
        obtain ⟨k, ys, hk, rfl, HYS, HR, HB⟩ := hrel
        have hzg := HB.out.size
        by_cases hgo : k < l'.length
        · obtain ⟨⟨kd, bb⟩, hp⟩ : ∃ p, l'[k]? = some p := ⟨_, List.getElem?_eq_getElem hgo⟩
          obtain ⟨⟨hk0, hk1⟩, hbby, hbbl⟩ := HLOK.out _ (List.mem_of_getElem? hp)
          simp only at hk0 hk1 hbby hbbl
          obtain ⟨ad, A3, c3, rfl, q0, q1, hcc, hCb⟩ := F_get (Kd.C_below HCG.out HB.out) hp
          have HLS := Aside0.mk (lays_snoc hp)
          have HBB := Aside0.mk hbby
          obtain ⟨W, hW⟩ : ∃ W, W = wr.alloc (.cells #[.int .u8 kd, .slice A3 bb.length c3] 62) := ⟨_, rfl⟩
          have hwk : Below wr.heap.size wr W := by rw [hW]; exact (Below.refl _ _).alloc (Nat.le_refl _) _
          have HCb := Aside0.mk (Kd.C_below hCb hwk)
          have HWB := Aside0.mk (HB.out.trans (hwk.mono hzg))
          have HRW := Aside0.mk (Kd.R_below HR.out hwk)
          obtain ⟨fl, hfl⟩ : ∃ fl, layL kd bb = fl := ⟨_, rfl⟩
          obtain ⟨n, hn⟩ : ∃ n, fl.length = n := ⟨_, rfl⟩
          have hyn : ys.length + n ≤ 13000 := by
            have h1 := lays_part l' (k + 1)
            rw [HLS.out, ← HYS.out, hfl, List.length_append, hn] at h1
            have := HLX.out
            omega
          have HFL := Aside0.mk hfl
          have HN := Aside0.mk hn
          clear hfl hn hp hbby hCb hwk
          go_wp2_with fail
          rw [← hW]
          clear hW
          go_wp2_with (first
            | (go_at_call 28; refine (lay_n kd hk0 hk1 A3 c3 bb bb.length rfl fl n HFL.out HN.out _ HCb.out hcc HBB.out hbbl).mono ?_; rintro e w2 ⟨A2, c2, rfl, -, hC2, -, hb⟩; have HB2 := Aside0.mk (HWB.out.trans (hb.mono HWB.out.size)); have HC2 := Aside0.mk hC2; have HR2 := Aside0.mk (Kd.R_below HRW.out hb); clear hb hC2)
            | ((with_reducible refine gate_builtin (b := .append) (xs := #[.tmp 77, .tmp 78]) rfl ?_); at_builtin; refine Kd.R_append_rows (Kd.int .u8) (w0 := wg) wg.heap.size rfl (.tmp 77) (.tmp 78) 22 5 (.int .u8 0) 1 rfl Try.underlying22 infoU8 rfl (by decide) (by omega) u12 ys fl _ _ _ (fun _ => True) (fun _ => False) rfl rfl ?aO ?aR (fun _ _ h => h) (fun _ h => h.elim) ?aF ?aB ?aS ?aL ?_; (case aR => exact HC2.out); (case aB => exact HB2.out); (case aF => exact (fun _ _ => trivial)); (case aO => exact HR2.out); (case aS => (exact HB2.out.size)); (case aL => omega); (intro v3 w3 ho3 hb3 hg hat; have HO3 := Aside0.mk ho3; have HB5 := Aside0.mk hb3; clear ho3 hb3 hg hat)))
          go_roundw
          case rel => exact ⟨k + 1, ys ++ fl, by omega, by go_num, ⟨by rw [HLS.out, HYS.out, HFL.out]⟩, HO3, HB5⟩
          case measure => simp [intOf]; omega
        · have hke : k = l'.length := by omega
          subst hke
          rw [List.take_length, HLY.out] at HYS
          have hys := HYS.out
          subst hys
          obtain ⟨Ay, cy, hvy, -, hCy⟩ := Kd.R_reads HR.out
          rw [show (X.take mm).length = mm by rw [List.length_take, HNX.out]; omega] at hvy hCy
          subst hvy
          have HCY := Aside0.mk hCy
          have HTX := Aside0.mk (show kU8.C wr Ax mm (X.take mm) by
            have h0 := Kd.C_below HCXG.out HB.out
            rw [← HNX.out] at h0
            have h := Kd.C_take (m := mm) h0 (by rw [HNX.out]; omega)
            rwa [show (X.take mm).length = mm by rw [List.length_take, HNX.out]; omega] at h)
          obtain ⟨i5, hi5, -, hi5s, -⟩ := info_ex infoU8
          have hr2 : ∀ W : World, (Instr.slice 22 (.slice Ax nx cx) none (some (.int .i64 (mm : Int))) none).run Try.prog W = .ok (.slice Ax mm cx) W := fun W => by
            simpa using cut_to (P := Try.prog) 22 5 .i64 Try.underlying22 hi5 Ax nx cx (mm : Int) (by omega) (by omega) hcx W
          have hge : decide (m.length ≤ l'.length) = true := by simpa using hst
          have HWR := Aside0.mk (show ∀ V, Keep (fun _ => False) wr.drew V → Below wr.heap.size wr V from fun V hV => (Below.refl wr.heap.size wr).drew.trans (hV.below (Nat.le_refl _) (fun _ _ h => h)))
          have HCUR := Aside0.mk (Keep.refl (fun _ => False) wr.drew)
          clear hCy hi5 hi5s
          go_wp2_with fail
          refine rk_start (fun _ => False) (by kernel_rfl) (n := 21) (l := #[false, false, false, false, false, false, false, false, false, false, false, false, false, false, false, false, false, false, false, false, false]) (by kernel_rfl) (by kernel_rfl) ?_
          refine rk_take (fuel := 20) 0 rfl (by kernel_rfl) (listed' := #[true, false, false, false, false, false, false, false, false, false, false, false, false, false, false, false, false, false, false, false, false]) (by kernel_rfl) (fun _ _ _ h => h) (by kernel_rfl) (fun w' hR => by go_simp; first | done | with_reducible rfl) rfl ?_
          try simp only [Act.put, List.setIfInBounds_toArray, List.set_cons_zero, List.set_cons_succ]
          refine rk_take (fuel := 19) 1 rfl (by kernel_rfl) (listed' := #[true, true, false, false, false, false, false, false, false, false, false, false, false, false, false, false, false, false, false, false, false]) (by kernel_rfl) (fun _ _ _ h => h) (by kernel_rfl) (fun w' hR => by go_simp; first | done | with_reducible rfl) rfl ?_
          try simp only [Act.put, List.setIfInBounds_toArray, List.set_cons_zero, List.set_cons_succ]
          refine rk_take (fuel := 18) 2 rfl (by kernel_rfl) (listed' := #[true, true, true, false, false, false, false, false, false, false, false, false, false, false, false, false, false, false, false, false, false]) (by kernel_rfl) (fun _ _ _ h => h) (by kernel_rfl) (fun w' hR => by go_simp; first | done | with_reducible rfl) rfl ?_
          try simp only [Act.put, List.setIfInBounds_toArray, List.set_cons_zero, List.set_cons_succ]
          refine rk_take (fuel := 17) 3 rfl (by kernel_rfl) (listed' := #[true, true, true, true, false, false, false, false, false, false, false, false, false, false, false, false, false, false, false, false, false]) (by kernel_rfl) (fun _ _ _ h => h) (by kernel_rfl) (fun w' hR => by go_simp; first | done | with_reducible rfl) rfl ?_
          try simp only [Act.put, List.setIfInBounds_toArray, List.set_cons_zero, List.set_cons_succ]
          refine rk_take (fuel := 16) 4 rfl (by kernel_rfl) (listed' := #[true, true, true, true, true, false, false, false, false, false, false, false, false, false, false, false, false, false, false, false, false]) (by kernel_rfl) (fun _ _ _ h => h) (by kernel_rfl) (fun w' hR => by go_simp; first | done | with_reducible rfl) rfl ?_
          try simp only [Act.put, List.setIfInBounds_toArray, List.set_cons_zero, List.set_cons_succ]
          refine rk_take (fuel := 15) 5 rfl (by kernel_rfl) (listed' := #[true, true, true, true, true, true, false, false, false, false, false, false, false, false, false, false, false, false, false, false, false]) (by kernel_rfl) (fun _ _ _ h => h) (by kernel_rfl) (fun w' hR => by go_simp; first | done | with_reducible rfl) rfl ?_
          try simp only [Act.put, List.setIfInBounds_toArray, List.set_cons_zero, List.set_cons_succ]
          refine rk_take (fuel := 14) 6 rfl (by kernel_rfl) (listed' := #[true, true, true, true, true, true, true, false, false, false, false, false, false, false, false, false, false, false, false, false, false]) (by kernel_rfl) (fun _ _ _ h => h) (by kernel_rfl) (fun w' hR => by go_simp; first | done | with_reducible rfl) rfl ?_
          try simp only [Act.put, List.setIfInBounds_toArray, List.set_cons_zero, List.set_cons_succ]
          refine rk_take (fuel := 13) 7 rfl (by kernel_rfl) (listed' := #[true, true, true, true, true, true, true, true, false, false, false, false, false, false, false, false, false, false, false, false, false]) (by kernel_rfl) (fun _ _ _ h => h) (by kernel_rfl) (fun w' hR => by go_simp; first | done | with_reducible rfl) rfl ?_
          try simp only [Act.put, List.setIfInBounds_toArray, List.set_cons_zero, List.set_cons_succ]
          refine rk_take (fuel := 12) 8 rfl (by kernel_rfl) (listed' := #[true, true, true, true, true, true, true, true, true, false, false, false, false, false, false, false, false, false, false, false, false]) (by kernel_rfl) (fun _ _ _ h => h) (by kernel_rfl) (fun w' hR => by go_simp; first | done | with_reducible rfl) rfl ?_
          try simp only [Act.put, List.setIfInBounds_toArray, List.set_cons_zero, List.set_cons_succ]
          refine rk_take (fuel := 11) 9 rfl (by kernel_rfl) (listed' := #[true, true, true, true, true, true, true, true, true, true, false, false, false, false, false, false, false, false, false, false, false]) (by kernel_rfl) (fun _ _ _ h => h) (by kernel_rfl) (fun w' hR => by go_simp; first | done | with_reducible rfl) rfl ?_
          try simp only [Act.put, List.setIfInBounds_toArray, List.set_cons_zero, List.set_cons_succ]
          refine rk_take (fuel := 10) 10 rfl (by kernel_rfl) (listed' := #[true, true, true, true, true, true, true, true, true, true, true, false, false, false, false, false, false, false, false, false, false]) (by kernel_rfl) (fun _ _ _ h => h) (by kernel_rfl) (fun w' hR => by go_simp; first | done | with_reducible rfl) rfl ?_
          try simp only [Act.put, List.setIfInBounds_toArray, List.set_cons_zero, List.set_cons_succ]
          refine rk_take (fuel := 9) 11 rfl (by kernel_rfl) (listed' := #[true, true, true, true, true, true, true, true, true, true, true, true, false, false, false, false, false, false, false, false, false]) (by kernel_rfl) (fun _ _ _ h => h) (by kernel_rfl) (fun w' hR => by go_simp; first | done | with_reducible rfl) rfl ?_
          try simp only [Act.put, List.setIfInBounds_toArray, List.set_cons_zero, List.set_cons_succ]
          refine rk_take (fuel := 8) 12 rfl (by kernel_rfl) (listed' := #[true, true, true, true, true, true, true, true, true, true, true, true, true, false, false, false, false, false, false, false, false]) (by kernel_rfl) (fun _ _ _ h => h) (by kernel_rfl) (fun w' hR => by go_simp; first | done | with_reducible rfl) rfl ?_
          try simp only [Act.put, List.setIfInBounds_toArray, List.set_cons_zero, List.set_cons_succ]
          refine rk_take (fuel := 7) 13 rfl (by kernel_rfl) (listed' := #[true, true, true, true, true, true, true, true, true, true, true, true, true, true, false, false, false, false, false, false, false]) (by kernel_rfl) (fun _ _ _ h => h) (by kernel_rfl) (fun w' hR => by have x0 := C_str (c := cy) (Kd.C_below HCY.out (HWR.out w' (HCUR.out.trans hR))); go_simp; first | done | with_reducible rfl) rfl ?_
          try simp only [Act.put, List.setIfInBounds_toArray, List.set_cons_zero, List.set_cons_succ]
          refine rk_take (fuel := 6) 14 rfl (by kernel_rfl) (listed' := #[true, true, true, true, true, true, true, true, true, true, true, true, true, true, true, false, false, false, false, false, false]) (by kernel_rfl) (fun _ _ _ h => h) (by kernel_rfl) (fun w' hR => by go_simp; first | done | with_reducible rfl) rfl ?_
          try simp only [Act.put, List.setIfInBounds_toArray, List.set_cons_zero, List.set_cons_succ]
          refine rk_take (fuel := 5) 15 rfl (by kernel_rfl) (listed' := #[true, true, true, true, true, true, true, true, true, true, true, true, true, true, true, true, false, false, false, false, false]) (by kernel_rfl) (fun _ _ _ h => h) (by kernel_rfl) (fun w' hR => by go_simp; first | done | with_reducible rfl) rfl ?_
          try simp only [Act.put, List.setIfInBounds_toArray, List.set_cons_zero, List.set_cons_succ]
          refine rk_take (fuel := 4) 16 rfl (by kernel_rfl) (listed' := #[true, true, true, true, true, true, true, true, true, true, true, true, true, true, true, true, true, false, false, false, false]) (by kernel_rfl) (fun _ _ _ h => h) (by kernel_rfl) (fun w' hR => by go_simp; first | done | with_reducible rfl) rfl ?_
          try simp only [Act.put, List.setIfInBounds_toArray, List.set_cons_zero, List.set_cons_succ]
          refine rk_take (fuel := 3) 17 rfl (by kernel_rfl) (listed' := #[true, true, true, true, true, true, true, true, true, true, true, true, true, true, true, true, true, true, false, false, false]) (by kernel_rfl) (fun _ _ _ h => h) (by kernel_rfl) (fun w' hR => by have x0 := C_str (c := cx) (Kd.C_below HTX.out (HWR.out w' (HCUR.out.trans hR))); go_simp; first | done | with_reducible rfl) rfl ?_
          try simp only [Act.put, List.setIfInBounds_toArray, List.set_cons_zero, List.set_cons_succ]
          refine rk_take (fuel := 2) 18 rfl (by kernel_rfl) (listed' := #[true, true, true, true, true, true, true, true, true, true, true, true, true, true, true, true, true, true, true, false, false]) (by kernel_rfl) (fun _ _ _ h => h) (by kernel_rfl) (fun w' hR => by go_simp; first | done | with_reducible rfl) rfl ?_
          try simp only [Act.put, List.setIfInBounds_toArray, List.set_cons_zero, List.set_cons_succ]
          refine rk_take (fuel := 1) 19 rfl (by kernel_rfl) (listed' := #[true, true, true, true, true, true, true, true, true, true, true, true, true, true, true, true, true, true, true, true, false]) (by kernel_rfl) (fun _ _ _ h => h) (by kernel_rfl) (fun w' hR => by go_simp; first | done | with_reducible rfl) rfl ?_
          try simp only [Act.put, List.setIfInBounds_toArray, List.set_cons_zero, List.set_cons_succ]
          refine rk_take (fuel := 0) 20 rfl (by kernel_rfl) (listed' := #[true, true, true, true, true, true, true, true, true, true, true, true, true, true, true, true, true, true, true, true, true]) (by kernel_rfl) (fun _ _ _ h => h) (by kernel_rfl) (fun w' hR => by go_simp; first | done | with_reducible rfl) rfl ?_
          try simp only [Act.put, List.setIfInBounds_toArray, List.set_cons_zero, List.set_cons_succ]
          refine rk_done (by kernel_rfl) ?_
          go_wp2
          go_ret
          exact ⟨rfl, (HBG.out.trans (HB.out.mono HBG.out.size)).drew⟩
theorem own : ownKnob Try.prog.godebug = none := by kernel_rfl
theorem laidOut : laidOutB Try.prog = true := by kernel_rfl
def IsRow (k : IntKind) (w : World) (a : Option Addr) (len cap : Nat) (zs : List Int) : Prop :=
  (a = none ∧ len = 0 ∧ cap = 0 ∧ zs = []) ∨
  ∃ x, a = some x ∧ len ≤ cap ∧ cap ≤ maxLen ∧ zs.length = cap ∧ (∀ i, i < zs.length → w.cell? (x.add i) = some (.int k (zs.getD i 0))) ∧ ∀ n ∈ zs, (Lit.int k n).wf = true
set_option maxRecDepth 100000 in
theorem lifted (os : Os) (started : os.Started) (H : Type) (enc : TypeId × Value → H) :
    ReturnsInHanded {} Try.checked os 13 .any (Rows.frameAllSpec.pre6 enc Try.prog Try.f13 Rows.frameAllRow.domain false) (Rows.frameAllSpec.post enc Try.prog Try.f13 false true false false) := by
  refine returnsInHanded_of_change_sized (C := Try.checked) own started (by kernel_rfl) Try.func13
    (ChangeSpec.witness6 (enc := enc) (C := Try.checked) false ⟨#[], #[.slice none 0 0, .slice none 0 0], []⟩ 8 (by kernel_rfl) (by kernel_rfl) (by kernel_rfl) (by kernel_rfl)) ?_
  intro W base args ds gs before hval0 hW hcnd hsz0 _
  have hsz : (DataW.weightsEach Try.prog (Try.f13.params.toList ++ Rows.frameAllSpec.plain.varTypes Try.prog) (ds ++ gs)).all (· ≤ reachBytes) = true := hsz0
  have hval : ∀ (j : Nat) t v, Try.f13.params[j]? = some t → args[j]? = some v → Value.okWide Try.prog W .any base t v := hval0
  have hW' := hW
  obtain ⟨p, q, hA0, hV, rfl, hfz, hnd⟩ := hW
  have hA : DataW.TrodAll enc Try.prog W 0 (fun _ => true) true Try.f13.params.toList args.toList ds p := hA0
  rw [Try.params13] at hA hval hsz
  obtain ⟨v0, vs0, d0, ds0, p0, q0, hargs, rfl, rfl, h0, r0⟩ := trodAll_cons hA
  obtain ⟨v1, vs1, d1, ds1, p1, q1, rfl, rfl, rfl, h1, r1⟩ := trodAll_cons r0
  obtain ⟨rfl, rfl, rfl⟩ := trodAll_nil r1
  obtain rfl : args = #[v0, v1] := by cases args; simp_all
  obtain ⟨rfl, rfl⟩ := trodVars_none hV
  obtain ⟨a0, len0, cap0, rfl⟩ := okWide_slice Try.underlying22 (hval 0 22 v0 rfl rfl)
  have k0 := h0
  have lt0 : ∀ x ∈ p0, x.block < W.heap.size := by obtain ⟨m, hm⟩ := k0; exact DataW.trod_lt m _ _ _ hm
  obtain ⟨z0, w0⟩ : ∃ zs, IsRow .u8 W a0 len0 cap0 zs := by
    obtain ⟨fuel, hf⟩ := h0
    rcases open_ints Try.underlying22 Try.underlying5 (by kernel_rfl) hf with ⟨hcs, _⟩ | ⟨x, l, c, zs, hcs, _, hl, hm, hz, _, hcell, hwz⟩
    · simp [Value.cells] at hcs
      obtain ⟨rfl, rfl, rfl⟩ := hcs
      exact ⟨[], .inl ⟨rfl, rfl, rfl, rfl⟩⟩
    · simp [Value.cells] at hcs
      obtain ⟨rfl, rfl, rfl⟩ := hcs
      exact ⟨zs, .inr ⟨_, rfl, hl, hm, by simpa using hz, hcell, hwz⟩⟩
  have y0 : len0 * 1 ≤ 140737488351232 := sized_ints hsz (j := 0) (t := 22) rfl rfl Try.underlying22 Try.underlying5 (by kernel_rfl) (by kernel_rfl) h0
  obtain ⟨l0, rfl, hr0, hm0, hwf0, hcap0⟩ := ReadsInt.ofRowC w0
  obtain ⟨a1, len1, cap1, rfl⟩ := okWide_slice Try.underlying64 (hval 1 64 v1 rfl rfl)
  have k1 := h1
  have alt1 := okWide_alt Try.underlying64 (hval 1 64 _ rfl rfl)
  have lt1 : ∀ x ∈ p1, x.block < W.heap.size := by obtain ⟨m, hm⟩ := k1; exact DataW.trod_lt m _ _ _ hm
  obtain ⟨l1, rfl, hcap1, hC1, hok1⟩ := opens_arg opens_frames h1
  clear hA0 hval0 hsz0 hsz
  refine (walk W _ _ l0 (Kd.C_of_reads (d := (0 : Int)) (h1 := fun _ => rfl) hr0) hcap0 y0 hwf0 _ _ l1 hC1 hcap1 hok1 alt1).mono fun e W' ⟨he, bel⟩ => ?_
  subst he
  exact ⟨_, rfl, _, _, _, [], _, [], hW', trodAll_mk1 (shut_bool Try.underlying4 _), (trodAll_cons_mk (Below.trod laidOut (by kernel_rfl) (of_decide_eq_true (by kernel_rfl)) k0 bel lt0) (trodAll_cons_mk (Below.trod laidOut (by kernel_rfl) (of_decide_eq_true (by kernel_rfl)) k1 bel lt1) trodAll_mk0)), rfl, bel.frame _, fun h => by cases h⟩
theorem over : Rows.frameAllRow.holds Try.pinned (OpenSpec.ofChange Rows.frameAllSpec) :=
  OpenClaim.holds_of_wide 13 Try.f13 rfl rfl rfl rfl rfl rfl rfl ⟨rfl, rfl, rfl, rfl, rfl⟩ rfl rfl rfl rfl rfl (by kernel_rfl) Try.func13 (by kernel_rfl)
    (of_decide_eq_true (by kernel_rfl)) (by unfold Func.isWrapper; first | (rw [if_pos (by decide +kernel)]; kernel_rfl) | (rw [if_neg (by decide +kernel)]; exact ⟨rfl, rfl⟩))
    (fun os started H enc _ => lifted os started H enc)
end Go.Proofs.Ytmklopaleiennaa.FrameAll
namespace Go.Proofs.Ytmklopaleiennaa
/-- The statement. -/
theorem frameAll_holds : Rows.FrameAllSaid := FrameAll.over
#print axioms frameAll_holds
end Go.Proofs.Ytmklopaleiennaa
