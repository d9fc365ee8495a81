/- Law 13's helpers: Made, Awake; pairs as they come in. -/
import Derived.Test.YtmkkebllmmafmaaPy
import Derived.Test.YtmkkebllmmafmaaO
namespace Go.Proofs.Ytmkkebllmmafmaa.Pz
open Go.Sort Go.RowKit Go.Proofs.YtmkkebllmmafmaaW.PrintWords Go.Proofs.YtmkkebllmmafmaaW.PrintLast Go.Proofs.YtmkkebllmmafmaaW.PrintMore Go.Proofs.Ytmkkebllmmafmaa.B Go.Proofs.Ytmkkebllmmafmaa.O Go.Proofs.Ytmkkebllmmafmaa.Ps Go.Proofs.Ytmkkebllmmafmaa.R Go.Proofs.Ytmkkebllmmafmaa.Pk Go.Proofs.Ytmkkebllmmafmaa.Pa Go.Proofs.Ytmkkebllmmafmaa.Pm Go.Proofs.Ytmkkebllmmafmaa.Pw Go.Proofs.Ytmkkebllmmafmaa.Pd Go.Proofs.Ytmkkebllmmafmaa.Pg Go.Proofs.Ytmkkebllmmafmaa.Px Go.Proofs.Ytmkkebllmmafmaa.S
set_option linter.unusedVariables false
set_option linter.unusedSimpArgs false
theorem opens_pair : Opens Try.prog 25 kP (fun p => (Lit.int .i64 p.1).wf = true ∧ (Lit.int .i64 p.2).wf = true) :=
  opens_struct Try.underlying25 (by kernel_rfl) (opens_cons rfl (by kernel_rfl) (opens_int Try.underlying3) (opens_last rfl (by kernel_rfl) (opens_int Try.underlying3)))
theorem opens_pairs : Opens Try.prog 22 (Kd.slice 25 kP) (fun l => (∀ v ∈ l, (Lit.int .i64 v.1).wf = true ∧ (Lit.int .i64 v.2).wf = true) ∧ l.length ≤ 9223372036854775807) := opens_slice Try.underlying22 (by kernel_rfl) opens_pair
theorem two64 : (2 : Int) ^ 64 = 18446744073709551616 := by decide
theorem wraps_u64 (n : Int) (h₀ : 0 ≤ n) (h₁ : n < 2 ^ 64) : IntKind.u64.wrap n = n := by
  simp only [IntKind.wrap, IntKind.bits, IntKind.signed]
  simp
  omega
theorem and1 (n : Int) (h0 : 0 ≤ n) (h1 : n < 18446744073709551616) : Go.bits .and .u64 n 1 = n % 2 := by
  have := bits_mask .u64 64 (by decide) wraps_u64 1 (by decide) n h0 (by rw [two64]; exact h1)
  simpa using this
def bit (x : Int) (i : Nat) : Bool := Go.bits .and .u64 (x / 2 ^ i) 1 == 1
theorem bit_eq (x : Int) (h0 : 0 ≤ x) (h1 : x < 18446744073709551616) (i : Nat) : bit x i = decide (x / 2 ^ i % 2 = 1) := by
  have hp : (0 : Int) < 2 ^ i := Int.pow_pos (by decide)
  have h2 : 0 ≤ x / 2 ^ i := Int.ediv_nonneg h0 (by omega)
  have h3 : x / 2 ^ i ≤ x := Int.ediv_le_self _ h0
  unfold bit
  rw [and1 _ h2 (by omega)]
  rfl
def bitF (x : Int) : Nat → Nat → Bool := fun v l => bit x (v * 8 + l)
def madeL (x : Int) : List Pr := pairsOf 6 8 (bitF x)
theorem madeL_rise (x : Int) : Rise (madeL x) := rise_pairsOf _ _ _
theorem madeL_box (x : Int) : InBox 6 8 (madeL x) := inBox_pairsOf _ _ _
theorem madeL_len (x : Int) : (madeL x).length ≤ 48 := pre_len _ _ _
set_option maxHeartbeats 4000000 in
set_option maxRecDepth 100000 in
theorem made_calls (x : Int) (h0 : 0 ≤ x) (h1 : x < 18446744073709551616) (w : World) :
    Calls Try.prog 11 #[.int .u64 x] w fun e w' => ∃ v, e = .returned v ∧ kP.R 25 w' w.heap.size (fun _ => True) v (madeL x) ∧ Below w.heap.size w w' := by
  go_enter Try.func11, Try.ntmps11
  go_wp2_with (first | (go_at_call 29; refine (new_calls 6 8 48 rfl (by decide) (by decide) (by decide) _).mono ?_; rintro e w1 ⟨g, h, rfl, hs, hb1⟩; have HS := Aside0.mk hs; have HB1 := Aside0.mk hb1; obtain ⟨y0, y1, y2⟩ := hs.cells; have hgl := hs.lt.1; clear hs hb1))
  have HS0 := Aside0.mk (HS.out.congr (f' := fun v l => if v * 8 + l < 0 then bitF x v l else false) (fun v l _ _ => by simp))
  clear HS y0 y1 y2 hgl
  go_loopw [11] (fun vk wr => ∃ k : Nat, k ≤ 48 ∧ vk = .int .i64 k ∧ Aside0 (SetAt wr w.heap.size g h 6 8 48 (fun v l => if v * 8 + l < k then bitF x v l else false)) ∧ Aside0 (Below w.heap.size w wr)) (fun vk _ => 48 - (intOf vk).toNat)
  case atStart => exact ⟨0, by omega, rfl, HS0, HB1⟩
  case round =>
    clear HS0 HB1
    obtain ⟨k, hk, rfl, HS, HB⟩ := hrel
    by_cases hgo : k < 48
    · have d0 : decide ((k : Int) < 48) = true := decide_eq_true (by omega)
      have hs := HS.out
      obtain ⟨a, ha⟩ : ∃ a, a = k / 8 := ⟨_, rfl⟩
      obtain ⟨b, hb⟩ : ∃ b, b = k % 8 := ⟨_, rfl⟩
      have hkab : a * 8 + b = k := by omega
      have ha6 : a < 6 := by omega
      have hb8 : b < 8 := by omega
      have y3 := hs.at ha6 hb8
      rw [hkab, if_neg (Nat.lt_irrefl k)] at y3
      have hk48 : (k : Int) < 48 := by omega
      have hfz := blk_frozen hs.row k
      have hgh := hs.ne
      have HF := Aside0.mk (show ∀ W, Keep (· = h) wr.drew W → W.cell? ⟨g, 2, none⟩ = some (.slice (some ⟨h, 0, none⟩) 48 48) ∧ g < W.heap.size from fun W hW => by
        have h1 := (hW.block g hs.lt.1 hgh).trans hs.obj
        exact ⟨by simp [World.cell?, h1], (Array.getElem?_eq_some_iff.1 h1).1⟩)
      have HAB := Aside0.mk hkab
      have HWR := Aside0.mk hs.lt.1
      clear hs ha hb hkab
      go_wp2_with fail
      refine rk_start ((· = h)) (by kernel_rfl) (n := 12) (l := #[false, false, false, false, false, false, false, false, false, false, false, false]) (by kernel_rfl) (by kernel_rfl) ?_
      refine rk_take (fuel := 11) 0 rfl (by kernel_rfl) (listed' := #[true, false, false, false, false, false, false, false, false, false, false, false]) (by kernel_rfl) (fun _ _ _ h => h) (by kernel_rfl) (fun w' hR => by obtain ⟨x0, x1⟩ := HF.out w' hR; go_simp; first | done | with_reducible rfl) rfl ?_
      try simp only [Act.put, List.setIfInBounds_toArray, List.set_cons_zero, List.set_cons_succ]
      refine rk_take (fuel := 10) 1 rfl (by kernel_rfl) (listed' := #[true, true, false, false, false, false, false, false, false, false, false, false]) (by kernel_rfl) (fun _ _ _ h => h) (by kernel_rfl) (fun w' hR => by obtain ⟨x0, x1⟩ := HF.out w' hR; go_simp; first | done | with_reducible rfl) rfl ?_
      try simp only [Act.put, List.setIfInBounds_toArray, List.set_cons_zero, List.set_cons_succ]
      refine rk_take (fuel := 9) 2 rfl (by kernel_rfl) (listed' := #[true, true, true, false, false, false, false, false, false, false, false, false]) (by kernel_rfl) (fun _ _ _ h => h) (by kernel_rfl) (fun w' hR => by obtain ⟨x0, x1⟩ := HF.out w' hR; go_simp; first | done | with_reducible rfl) rfl ?_
      try simp only [Act.put, List.setIfInBounds_toArray, List.set_cons_zero, List.set_cons_succ]
      refine rk_take (fuel := 8) 3 rfl (by kernel_rfl) (listed' := #[true, true, true, true, false, false, false, false, false, false, false, false]) (by kernel_rfl) (fun _ _ _ h => h) (by kernel_rfl) (fun w' hR => by obtain ⟨x0, x1⟩ := HF.out w' hR; go_simp; first | done | with_reducible rfl) rfl ?_
      try simp only [Act.put, List.setIfInBounds_toArray, List.set_cons_zero, List.set_cons_succ]
      refine rk_take (fuel := 7) 4 rfl (by kernel_rfl) (listed' := #[true, true, true, true, true, false, false, false, false, false, false, false]) (by kernel_rfl) (fun _ _ _ h => h) (by kernel_rfl) (fun w' hR => by obtain ⟨x0, x1⟩ := HF.out w' hR; go_simp; first | done | with_reducible rfl) rfl ?_
      try simp only [Act.put, List.setIfInBounds_toArray, List.set_cons_zero, List.set_cons_succ]
      refine rk_take (fuel := 6) 5 rfl (by kernel_rfl) (listed' := #[true, true, true, true, true, true, false, false, false, false, false, false]) (by kernel_rfl) (fun _ _ _ h => h) (by kernel_rfl) (fun w' hR => by obtain ⟨x0, x1⟩ := HF.out w' hR; go_simp; first | done | with_reducible rfl) rfl ?_
      try simp only [Act.put, List.setIfInBounds_toArray, List.set_cons_zero, List.set_cons_succ]
      refine rk_take (fuel := 5) 6 rfl (by kernel_rfl) (listed' := #[true, true, true, true, true, true, true, false, false, false, false, false]) (by kernel_rfl) (fun _ _ _ h => h) (by kernel_rfl) (fun w' hR => by obtain ⟨x0, x1⟩ := HF.out w' hR; go_simp; first | done | with_reducible rfl) rfl ?_
      try simp only [Act.put, List.setIfInBounds_toArray, List.set_cons_zero, List.set_cons_succ]
      refine rk_take (fuel := 4) 7 rfl (by kernel_rfl) (listed' := #[true, true, true, true, true, true, true, true, false, false, false, false]) (by kernel_rfl) (fun _ _ _ h => h) (by kernel_rfl) (fun w' hR => by obtain ⟨x0, x1⟩ := HF.out w' hR; go_simp; first | done | with_reducible rfl) rfl ?_
      try simp only [Act.put, List.setIfInBounds_toArray, List.set_cons_zero, List.set_cons_succ]
      refine rk_take (fuel := 3) 8 rfl (by kernel_rfl) (listed' := #[true, true, true, true, true, true, true, true, true, false, false, false]) (by kernel_rfl) (fun _ _ _ h => h) (by kernel_rfl) (fun w' hR => by obtain ⟨x0, x1⟩ := HF.out w' hR; go_simp; first | done | with_reducible rfl) rfl ?_
      try simp only [Act.put, List.setIfInBounds_toArray, List.set_cons_zero, List.set_cons_succ]
      refine rk_take (fuel := 2) 9 rfl (by kernel_rfl) (listed' := #[true, true, true, true, true, true, true, true, true, true, false, false]) (by kernel_rfl) (fun _ _ _ h => h) (by kernel_rfl) (fun w' hR => by obtain ⟨x0, x1⟩ := HF.out w' hR; go_simp; first | done | with_reducible rfl) rfl ?_
      try simp only [Act.put, List.setIfInBounds_toArray, List.set_cons_zero, List.set_cons_succ]
      refine rk_take (fuel := 1) 10 rfl (by kernel_rfl) (listed' := #[true, true, true, true, true, true, true, true, true, true, true, false]) (by kernel_rfl) (fun _ _ _ h => h) (by kernel_rfl) (fun w' hR => by obtain ⟨x0, x1⟩ := HF.out w' hR; go_simp; first | done | with_reducible rfl) rfl ?_
      try simp only [Act.put, List.setIfInBounds_toArray, List.set_cons_zero, List.set_cons_succ]
      refine rk_step (fuel := 0) 11 rfl (by kernel_rfl) (listed' := #[true, true, true, true, true, true, true, true, true, true, true, true]) (by kernel_rfl) (by kernel_rfl) (fun K' hK => ?_)
      (go_wp2_with fail)
      refine hK.out _ _ (Keep.setCell (Keep.refl _ _) ⟨h, k, none⟩ _ (fun _ => rfl)) ?_
      clear hK K'
      try simp only [Act.put, List.setIfInBounds_toArray, List.set_cons_zero, List.set_cons_succ]
      refine rk_done (by kernel_rfl) ?_
      have HPUT := Aside0.mk ((HS.out.move (w' := wr.drew) rfl rfl).put ha6 hb8 (bit x k))
      have HKP := Aside0.mk (Keep.setCell (Keep.drew (Keep.refl (· = h) wr)) ⟨h, k, none⟩ (.bool (bit x k)) (fun _ => rfl))
      rw [HAB.out] at HPUT
      obtain ⟨WP, hWP⟩ : ∃ WP, WP = wr.drew.setCell ⟨h, k, none⟩ (.bool (bit x k)) := ⟨_, rfl⟩
      rw [← hWP] at HPUT HKP
      have hWP2 : (wr.setCell ⟨h, k, none⟩ (.bool (Go.bits .and .u64 (x / 2 ^ k) 1 == 1))).drew = WP := by rw [hWP]; rfl
      rw [hWP2]
      clear hWP hWP2 hfz y3
      go_wp2
      go_roundw
      case rel =>
        refine ⟨k + 1, by omega, by go_num, ⟨HPUT.out.congr fun v l hv hl => ?_⟩, ⟨Keep.below_then HB.out HKP.out HB.out.size fun i hi e => ?_⟩⟩
        · unfold upd bitF
          by_cases he : v = a ∧ l = b
          · rw [if_pos he, he.1, he.2, HAB.out, if_pos (by omega)]
          · rw [if_neg he]
            show (if v * 8 + l < k then bit x (v * 8 + l) else false) = (if v * 8 + l < k + 1 then bit x (v * 8 + l) else false)
            have hne : v * 8 + l ≠ k := fun h9 => he (ix_inj hl hb8 (by rw [h9, HAB.out]))
            by_cases h8 : v * 8 + l < k
            · rw [if_pos h8, if_pos (by omega)]
            · rw [if_neg h8, if_neg (by omega)]
        · have := HS.out.hb
          omega
      case measure => simp [intOf]; omega
    · obtain rfl : k = 48 := by omega
      have HSF := Aside0.mk (HS.out.congr (f' := bitF x) fun v l hv hl => by rw [if_pos (by omega)])
      go_wp2_with (first | (go_at_call 18; refine (pairs_calls HSF.out (by decide) (by decide) (by decide)).mono ?_; rintro e w2 ⟨v2, rfl, ho2, hb2⟩; have HO2 := Aside0.mk ho2; have HB2 := Aside0.mk hb2; clear ho2 hb2))
      go_ret
      exact ⟨_, rfl, Kd.R_lower HO2.out HB.out.size, HB.out.trans (HB2.out.mono HB.out.size)⟩
end Go.Proofs.Ytmkkebllmmafmaa.Pz
