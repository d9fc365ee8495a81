/- FilePlays: calls in any order. No condition. -/
import Derived.Test.YtmklopaleiennaaRows
import Derived.ProofKit
import Derived.OpenShut
import Derived.ShutString
import Derived.ChangeOld
import Derived.SizedLaws
import Derived.Test.YtmklopaleiennaaWSized
import Derived.Test.YtmklopaleiennaaFo
import Derived.Test.YtmklopaleiennaaFt
import Derived.Test.YtmklopaleiennaaE
import Derived.Test.YtmklopaleiennaaS
namespace Go.Proofs.Ytmklopaleiennaa.FilePlays
open Go.ChangeShapes Go.WideShapes Go.ChangeAt Go.RowKit Go.Proofs.YtmklopaleiennaaW.PrintWords Go.Proofs.YtmklopaleiennaaW.PrintLast Go.Proofs.YtmklopaleiennaaW.PrintMore Go.Proofs.Ytmklopaleiennaa.B Go.Proofs.Ytmklopaleiennaa.Fs Go.Proofs.Ytmklopaleiennaa.Fc Go.Proofs.Ytmklopaleiennaa.Fw Go.Proofs.Ytmklopaleiennaa.Ft Go.Proofs.Ytmklopaleiennaa.O Go.Proofs.Ytmklopaleiennaa.Fo Go.Proofs.Ytmklopaleiennaa.R Go.Proofs.Ytmklopaleiennaa.S
set_option linter.unusedVariables false
set_option linter.unusedSimpArgs false
/-- What a row of bytes is as a string, from there on. -/
theorem obtainC {w : World} {S : Nat → Prop} {A : Option Addr} {n c : Nat} {xs : List Int} (h : Buf .u8 5 w S (.slice A n c) xs) : ∀ w', Below w.heap.size w w' → (convert 22 9 (.slice A n c)).run Try.prog w' = .ok (.string (strOfNums xs)) w' := by
  intro w' hb
  obtain ⟨A', c', he, -, hC, -⟩ := h.reads
  injection he with h1 h2 h3
  subst h1 h2 h3
  exact Fd.C_str (Kd.C_below hC hb)
set_option maxHeartbeats 8000000 in
set_option maxRecDepth 100000 in
theorem walk (w : World) (room : Int) (hroom : (Lit.int .i64 room).wf = true) (A : Option Addr) (c : Nat) (m : List (Int × Int × Bool × List Int × List Int)) (hC : kA.C w A m.length m) (hcap : m.length ≤ c) (hok : (∀ v ∈ m, AOk v) ∧ m.length ≤ 9223372036854775807) (hAlt : ∀ a, A = some a → a.block < w.heap.size) :
    Calls Try.prog 6 #[.int .i64 room, .slice A m.length c] w fun e w' => e = .returned (.bool true) ∧ Below w.heap.size w w' := by
  have HC := Aside0.mk hC
  have HOK := Aside0.mk hok.1
  have hml := hok.2
  have hrr := wf_i64 hroom
  clear hC hok hAlt hroom
  by_cases hb : room < 0 ∨ 4194304 < room
  · have hb' : room < 0 ∨ 0 ≤ room ∧ 4194304 < room := by omega
    have HB := Aside0.mk hb
    clear hb
    rcases hb' with hb | ⟨hb, hb2⟩
    all_goals
      go_enter Try.func6, Try.ntmps6
      go_wp2_with (first
        | (go_at_call 14; refine (Fd.awake_calls _).mono ?_; rintro e w0 ⟨rfl, hb0⟩; have HB0 := Aside0.mk hb0; clear hb0)
        | (go_at_call 15; refine (Fd.new_refused room _ HB.out).mono ?_; rintro e w1 ⟨rfl, rfl⟩))
      go_ret
      exact ⟨rfl, HB0.out⟩
  have hr0 : 0 ≤ room := by omega
  have hr1 : room ≤ 4194304 := by omega
  clear hb
  go_enter Try.func6, Try.ntmps6
  go_wp2_with (first
    | (go_at_call 14; refine (Fd.awake_calls _).mono ?_; rintro e w0 ⟨rfl, hb0⟩; have HB0 := Aside0.mk hb0; clear hb0)
    | (go_at_call 15; refine (Fd.new_calls room _ hr0 hr1).mono ?_; rintro e w1 ⟨rfl, h1, hb1⟩; have H1 := Aside0.mk h1; have HB1 := Aside0.mk hb1; clear h1 hb1))
  have hz0 := HB0.out.size
  have hz1 := H1.out.lt.1
  have htwo : Two w (fun _ => False) (w1.alloc (.cells #[.int .i64 room, .slice none 0 0, .slice none 0 0] 44)) w0.heap.size w1.heap.size room [] [] [] [] := by
    have hok : FOk room [] [] := ⟨hr0, hr1, by simpa using hr0, fun x hx => (by cases hx), trivial⟩
    exact ⟨_, _, H1.out.below ((Below.refl _ _).alloc (Nat.le_refl _) _), Fl.made room _ _ w1, fun k h1 h2 => (by omega), fun k hk => .inr (by omega), Keep.of_below ((HB0.out.trans (HB1.out.mono hz0)).alloc (by omega) _), hok, hok⟩
  have HT0 := Aside0.mk htwo
  clear htwo
  obtain ⟨g1, hg1⟩ : ∃ g1, w0.heap.size = g1 := ⟨_, rfl⟩
  obtain ⟨g2, hg2⟩ : ∃ g2, w1.heap.size = g2 := ⟨_, rfl⟩
  rw [hg1, hg2] at HT0
  rw [hg1, hg2]
  clear hg1 hg2 hz0 hz1 HB0 HB1 H1
  go_loopw [40] (fun vi wr => ∃ (k : Nat) (s : List Int) (q : List (Int × List Int)), k ≤ m.length ∧ k ≤ 51 ∧ vi = .int .i64 k ∧ q.length ≤ k ∧ Aside0 (Two w (fun _ => False) wr g1 g2 room s q s q)) (fun vi _ => m.length - (intOf vi).toNat)
  case atStart => exact ⟨0, [], [], by omega, by omega, rfl, by simp, HT0⟩
  case round =>
    clear HT0
    obtain ⟨k, s, q, hk, hk51, rfl, hql, HT⟩ := hrel
    have HW := Aside0.mk (show Below w.heap.size w wr from HT.out.keep.below (Nat.le_refl _) (fun _ _ h => h))
    by_cases hgo : k < m.length
    · obtain ⟨⟨kd, i, raw, b, keep⟩, hp⟩ : ∃ p, m[k]? = some p := ⟨_, List.getElem?_eq_getElem hgo⟩
      obtain ⟨⟨hk0, hk1⟩, ⟨hi0, hi1⟩, hby, hkr⟩ := HOK.out _ (List.mem_of_getElem? hp)
      simp only at hk0 hk1 hi0 hi1 hby hkr
      obtain ⟨ad, rfl⟩ : ∃ ad, A = some ad := by obtain ⟨ad, e, _⟩ := HC.out.2.2 (by omega); exact ⟨ad, e⟩
      obtain ⟨A3, c3, B3, d3, q0, q1, q2, q3, q4, hbc, hkc, hCb, hCk⟩ := act_cells HC.out hp
      have HCb := Aside0.mk hCb
      have HCk := Aside0.mk hCk
      have HBY := Aside0.mk hby
      have HKR := Aside0.mk hkr
      clear hp hCb hCk hby hkr
      have r0 := (HW.out.cell (World.block_lt_of_cell? w _ q0)).trans q0
      have r1 := (HW.out.cell (World.block_lt_of_cell? w _ q1)).trans q1
      have r2 := (HW.out.cell (World.block_lt_of_cell? w _ q2)).trans q2
      have r3 := (HW.out.cell (World.block_lt_of_cell? w _ q3)).trans q3
      have r4 := (HW.out.cell (World.block_lt_of_cell? w _ q4)).trans q4
      clear q0 q1 q2 q3 q4 hbc hkc
      have HAX := Aside0.mk (HT.out.alloc (.cells #[.int .u8 kd, .int .i64 i, .bool raw, .slice A3 b.length c3, .slice B3 keep.length d3] 35))
      by_cases h50 : 50 < k
      · go_upto_region 42 with fail
        have HTX := HAX
        obtain ⟨nb, hnb⟩ : ∃ nb, (over q s).length = nb := ⟨_, rfl⟩
        have HNB := Aside0.mk hnb
        have HWX := Aside0.mk (HTX.out.keep.below (Nat.le_refl _) (fun _ _ h => h) : Below w.heap.size w _)
        clear hnb
        go_wp2_with fail
        refine rk_start (fun _ => False) (by kernel_rfl) (n := 12) (l := #[false, false, false, false, false, false, false, false, false, false, false, false]) (by kernel_rfl) (by kernel_rfl) ?_
        refine rk_take (fuel := 11) 0 rfl (by kernel_rfl) (listed' := #[true, false, false, false, false, false, false, false, false, false, false, false]) (by kernel_rfl) (fun _ _ _ h => h) (by kernel_rfl) (fun w' hR => by go_simp; first | done | with_reducible rfl) rfl ?_
        try simp only [Act.put, List.setIfInBounds_toArray, List.set_cons_zero, List.set_cons_succ]
        refine rk_take (fuel := 10) 1 rfl (by kernel_rfl) (listed' := #[true, true, false, false, false, false, false, false, false, false, false, false]) (by kernel_rfl) (fun _ _ _ h => h) (by kernel_rfl) (fun w' hR => by go_simp; first | done | with_reducible rfl) rfl ?_
        try simp only [Act.put, List.setIfInBounds_toArray, List.set_cons_zero, List.set_cons_succ]
        refine rk_take (fuel := 9) 2 rfl (by kernel_rfl) (listed' := #[true, true, true, false, false, false, false, false, false, false, false, false]) (by kernel_rfl) (fun _ _ _ h => h) (by kernel_rfl) (fun w' hR => by go_simp; first | done | with_reducible rfl) rfl ?_
        try simp only [Act.put, List.setIfInBounds_toArray, List.set_cons_zero, List.set_cons_succ]
        refine rk_take (fuel := 8) 3 rfl (by kernel_rfl) (listed' := #[true, true, true, true, false, false, false, false, false, false, false, false]) (by kernel_rfl) (fun _ _ _ h => h) (by kernel_rfl) (fun w' hR => by go_simp; first | done | with_reducible rfl) rfl ?_
        try simp only [Act.put, List.setIfInBounds_toArray, List.set_cons_zero, List.set_cons_succ]
        refine rk_take (fuel := 7) 6 rfl (by kernel_rfl) (listed' := #[true, true, true, true, false, false, true, false, false, false, false, false]) (by kernel_rfl) (fun _ _ _ h => h) (by kernel_rfl) (fun w' hR => by go_simp; first | done | with_reducible rfl) rfl ?_
        try simp only [Act.put, List.setIfInBounds_toArray, List.set_cons_zero, List.set_cons_succ]
        refine rk_step (fuel := 6) 4 rfl (by kernel_rfl) (listed' := #[true, true, true, true, true, false, true, false, false, false, false, false]) (by kernel_rfl) (by kernel_rfl) (fun K' hK => ?_)
        go_wp2_with (first | (go_at_call 19; refine (f_bytes HTX.out.drew (over q s) nb rfl HNB.out).mono ?_; rintro e wa ⟨A7, c7, rfl, hu7, hb7, ht7⟩; have HU7 := Aside0.mk hu7; have HK7 := Aside0.mk (Keep.of_below (S := fun _ => False) hb7); have HT7 := Aside0.mk ht7; clear hu7 hb7 ht7))
        refine hK.out _ _ HK7.out ?_
        clear hK K'
        try simp only [Act.put, List.setIfInBounds_toArray, List.set_cons_zero, List.set_cons_succ]
        refine rk_take (fuel := 5) 5 rfl (by kernel_rfl) (listed' := #[true, true, true, true, true, true, true, false, false, false, false, false]) (by kernel_rfl) (fun _ _ _ h => h) (by kernel_rfl) (fun w' hR => by have x0 := (obtainC HU7.out) w' (hR.below (Nat.le_refl _) (fun _ _ h => h)); go_simp; first | done | with_reducible rfl) rfl ?_
        try simp only [Act.put, List.setIfInBounds_toArray, List.set_cons_zero, List.set_cons_succ]
        refine rk_step (fuel := 4) 7 rfl (by kernel_rfl) (listed' := #[true, true, true, true, true, true, true, true, false, false, false, false]) (by kernel_rfl) (by kernel_rfl) (fun K' hK => ?_)
        go_wp2_with (first | (go_at_call 21; refine (m_bytes HT7.out (over q s) nb rfl HNB.out).mono ?_; rintro e wb ⟨A8, c8, rfl, hu8, hb8, ht8⟩; have HU8 := Aside0.mk hu8; have HK8 := Aside0.mk (Keep.of_below (S := fun _ => False) hb8); have HT8 := Aside0.mk ht8; clear hu8 hb8 ht8))
        refine hK.out _ _ HK8.out ?_
        clear hK K'
        try simp only [Act.put, List.setIfInBounds_toArray, List.set_cons_zero, List.set_cons_succ]
        refine rk_take (fuel := 3) 8 rfl (by kernel_rfl) (listed' := #[true, true, true, true, true, true, true, true, true, false, false, false]) (by kernel_rfl) (fun _ _ _ h => h) (by kernel_rfl) (fun w' hR => by have x0 := (obtainC HU8.out) w' (hR.below (Nat.le_refl _) (fun _ _ h => h)); go_simp; first | done | with_reducible rfl) rfl ?_
        try simp only [Act.put, List.setIfInBounds_toArray, List.set_cons_zero, List.set_cons_succ]
        refine rk_take (fuel := 2) 9 rfl (by kernel_rfl) (listed' := #[true, true, true, true, true, true, true, true, true, true, false, false]) (by kernel_rfl) (fun _ _ _ h => h) (by kernel_rfl) (fun w' hR => by go_simp; first | done | with_reducible rfl) rfl ?_
        try simp only [Act.put, List.setIfInBounds_toArray, List.set_cons_zero, List.set_cons_succ]
        refine rk_take (fuel := 1) 10 rfl (by kernel_rfl) (listed' := #[true, true, true, true, true, true, true, true, true, true, true, false]) (by kernel_rfl) (fun _ _ _ h => h) (by kernel_rfl) (fun w' hR => by go_simp; first | done | with_reducible rfl) rfl ?_
        try simp only [Act.put, List.setIfInBounds_toArray, List.set_cons_zero, List.set_cons_succ]
        refine rk_take (fuel := 0) 11 rfl (by kernel_rfl) (listed' := #[true, true, true, true, true, true, true, true, true, true, true, true]) (by kernel_rfl) (fun _ _ _ h => h) (by kernel_rfl) (fun w' hR => by go_simp; first | done | with_reducible rfl) rfl ?_
        try simp only [Act.put, List.setIfInBounds_toArray, List.set_cons_zero, List.set_cons_succ]
        refine rk_done (by kernel_rfl) ?_
        go_wp2
        go_ret
        exact ⟨rfl, HT8.out.keep.below (Nat.le_refl _) (fun _ _ h => h)⟩
      have e50 : decide ((50 : Int) < k) = false := by simp; omega
      by_cases h300 : 300 < b.length
      · go_upto_region 42 with fail
        have HTX := HAX
        obtain ⟨nb, hnb⟩ : ∃ nb, (over q s).length = nb := ⟨_, rfl⟩
        have HNB := Aside0.mk hnb
        have HWX := Aside0.mk (HTX.out.keep.below (Nat.le_refl _) (fun _ _ h => h) : Below w.heap.size w _)
        clear hnb
        go_wp2_with fail
        refine rk_start (fun _ => False) (by kernel_rfl) (n := 12) (l := #[false, false, false, false, false, false, false, false, false, false, false, false]) (by kernel_rfl) (by kernel_rfl) ?_
        refine rk_take (fuel := 11) 0 rfl (by kernel_rfl) (listed' := #[true, false, false, false, false, false, false, false, false, false, false, false]) (by kernel_rfl) (fun _ _ _ h => h) (by kernel_rfl) (fun w' hR => by go_simp; first | done | with_reducible rfl) rfl ?_
        try simp only [Act.put, List.setIfInBounds_toArray, List.set_cons_zero, List.set_cons_succ]
        refine rk_take (fuel := 10) 1 rfl (by kernel_rfl) (listed' := #[true, true, false, false, false, false, false, false, false, false, false, false]) (by kernel_rfl) (fun _ _ _ h => h) (by kernel_rfl) (fun w' hR => by go_simp; first | done | with_reducible rfl) rfl ?_
        try simp only [Act.put, List.setIfInBounds_toArray, List.set_cons_zero, List.set_cons_succ]
        refine rk_take (fuel := 9) 2 rfl (by kernel_rfl) (listed' := #[true, true, true, false, false, false, false, false, false, false, false, false]) (by kernel_rfl) (fun _ _ _ h => h) (by kernel_rfl) (fun w' hR => by go_simp; first | done | with_reducible rfl) rfl ?_
        try simp only [Act.put, List.setIfInBounds_toArray, List.set_cons_zero, List.set_cons_succ]
        refine rk_take (fuel := 8) 3 rfl (by kernel_rfl) (listed' := #[true, true, true, true, false, false, false, false, false, false, false, false]) (by kernel_rfl) (fun _ _ _ h => h) (by kernel_rfl) (fun w' hR => by go_simp; first | done | with_reducible rfl) rfl ?_
        try simp only [Act.put, List.setIfInBounds_toArray, List.set_cons_zero, List.set_cons_succ]
        refine rk_take (fuel := 7) 6 rfl (by kernel_rfl) (listed' := #[true, true, true, true, false, false, true, false, false, false, false, false]) (by kernel_rfl) (fun _ _ _ h => h) (by kernel_rfl) (fun w' hR => by go_simp; first | done | with_reducible rfl) rfl ?_
        try simp only [Act.put, List.setIfInBounds_toArray, List.set_cons_zero, List.set_cons_succ]
        refine rk_step (fuel := 6) 4 rfl (by kernel_rfl) (listed' := #[true, true, true, true, true, false, true, false, false, false, false, false]) (by kernel_rfl) (by kernel_rfl) (fun K' hK => ?_)
        go_wp2_with (first | (go_at_call 19; refine (f_bytes HTX.out.drew (over q s) nb rfl HNB.out).mono ?_; rintro e wa ⟨A7, c7, rfl, hu7, hb7, ht7⟩; have HU7 := Aside0.mk hu7; have HK7 := Aside0.mk (Keep.of_below (S := fun _ => False) hb7); have HT7 := Aside0.mk ht7; clear hu7 hb7 ht7))
        refine hK.out _ _ HK7.out ?_
        clear hK K'
        try simp only [Act.put, List.setIfInBounds_toArray, List.set_cons_zero, List.set_cons_succ]
        refine rk_take (fuel := 5) 5 rfl (by kernel_rfl) (listed' := #[true, true, true, true, true, true, true, false, false, false, false, false]) (by kernel_rfl) (fun _ _ _ h => h) (by kernel_rfl) (fun w' hR => by have x0 := (obtainC HU7.out) w' (hR.below (Nat.le_refl _) (fun _ _ h => h)); go_simp; first | done | with_reducible rfl) rfl ?_
        try simp only [Act.put, List.setIfInBounds_toArray, List.set_cons_zero, List.set_cons_succ]
        refine rk_step (fuel := 4) 7 rfl (by kernel_rfl) (listed' := #[true, true, true, true, true, true, true, true, false, false, false, false]) (by kernel_rfl) (by kernel_rfl) (fun K' hK => ?_)
        go_wp2_with (first | (go_at_call 21; refine (m_bytes HT7.out (over q s) nb rfl HNB.out).mono ?_; rintro e wb ⟨A8, c8, rfl, hu8, hb8, ht8⟩; have HU8 := Aside0.mk hu8; have HK8 := Aside0.mk (Keep.of_below (S := fun _ => False) hb8); have HT8 := Aside0.mk ht8; clear hu8 hb8 ht8))
        refine hK.out _ _ HK8.out ?_
        clear hK K'
        try simp only [Act.put, List.setIfInBounds_toArray, List.set_cons_zero, List.set_cons_succ]
        refine rk_take (fuel := 3) 8 rfl (by kernel_rfl) (listed' := #[true, true, true, true, true, true, true, true, true, false, false, false]) (by kernel_rfl) (fun _ _ _ h => h) (by kernel_rfl) (fun w' hR => by have x0 := (obtainC HU8.out) w' (hR.below (Nat.le_refl _) (fun _ _ h => h)); go_simp; first | done | with_reducible rfl) rfl ?_
        try simp only [Act.put, List.setIfInBounds_toArray, List.set_cons_zero, List.set_cons_succ]
        refine rk_take (fuel := 2) 9 rfl (by kernel_rfl) (listed' := #[true, true, true, true, true, true, true, true, true, true, false, false]) (by kernel_rfl) (fun _ _ _ h => h) (by kernel_rfl) (fun w' hR => by go_simp; first | done | with_reducible rfl) rfl ?_
        try simp only [Act.put, List.setIfInBounds_toArray, List.set_cons_zero, List.set_cons_succ]
        refine rk_take (fuel := 1) 10 rfl (by kernel_rfl) (listed' := #[true, true, true, true, true, true, true, true, true, true, true, false]) (by kernel_rfl) (fun _ _ _ h => h) (by kernel_rfl) (fun w' hR => by go_simp; first | done | with_reducible rfl) rfl ?_
        try simp only [Act.put, List.setIfInBounds_toArray, List.set_cons_zero, List.set_cons_succ]
        refine rk_take (fuel := 0) 11 rfl (by kernel_rfl) (listed' := #[true, true, true, true, true, true, true, true, true, true, true, true]) (by kernel_rfl) (fun _ _ _ h => h) (by kernel_rfl) (fun w' hR => by go_simp; first | done | with_reducible rfl) rfl ?_
        try simp only [Act.put, List.setIfInBounds_toArray, List.set_cons_zero, List.set_cons_succ]
        refine rk_done (by kernel_rfl) ?_
        go_wp2
        go_ret
        exact ⟨rfl, HT8.out.keep.below (Nat.le_refl _) (fun _ _ h => h)⟩
      have e300 : decide ((300 : Int) < b.length) = false := by simp; omega
      by_cases h100 : 100 < keep.length
      · go_upto_region 42 with fail
        have HTX := HAX
        obtain ⟨nb, hnb⟩ : ∃ nb, (over q s).length = nb := ⟨_, rfl⟩
        have HNB := Aside0.mk hnb
        have HWX := Aside0.mk (HTX.out.keep.below (Nat.le_refl _) (fun _ _ h => h) : Below w.heap.size w _)
        clear hnb
        go_wp2_with fail
        refine rk_start (fun _ => False) (by kernel_rfl) (n := 12) (l := #[false, false, false, false, false, false, false, false, false, false, false, false]) (by kernel_rfl) (by kernel_rfl) ?_
        refine rk_take (fuel := 11) 0 rfl (by kernel_rfl) (listed' := #[true, false, false, false, false, false, false, false, false, false, false, false]) (by kernel_rfl) (fun _ _ _ h => h) (by kernel_rfl) (fun w' hR => by go_simp; first | done | with_reducible rfl) rfl ?_
        try simp only [Act.put, List.setIfInBounds_toArray, List.set_cons_zero, List.set_cons_succ]
        refine rk_take (fuel := 10) 1 rfl (by kernel_rfl) (listed' := #[true, true, false, false, false, false, false, false, false, false, false, false]) (by kernel_rfl) (fun _ _ _ h => h) (by kernel_rfl) (fun w' hR => by go_simp; first | done | with_reducible rfl) rfl ?_
        try simp only [Act.put, List.setIfInBounds_toArray, List.set_cons_zero, List.set_cons_succ]
        refine rk_take (fuel := 9) 2 rfl (by kernel_rfl) (listed' := #[true, true, true, false, false, false, false, false, false, false, false, false]) (by kernel_rfl) (fun _ _ _ h => h) (by kernel_rfl) (fun w' hR => by go_simp; first | done | with_reducible rfl) rfl ?_
        try simp only [Act.put, List.setIfInBounds_toArray, List.set_cons_zero, List.set_cons_succ]
        refine rk_take (fuel := 8) 3 rfl (by kernel_rfl) (listed' := #[true, true, true, true, false, false, false, false, false, false, false, false]) (by kernel_rfl) (fun _ _ _ h => h) (by kernel_rfl) (fun w' hR => by go_simp; first | done | with_reducible rfl) rfl ?_
        try simp only [Act.put, List.setIfInBounds_toArray, List.set_cons_zero, List.set_cons_succ]
        refine rk_take (fuel := 7) 6 rfl (by kernel_rfl) (listed' := #[true, true, true, true, false, false, true, false, false, false, false, false]) (by kernel_rfl) (fun _ _ _ h => h) (by kernel_rfl) (fun w' hR => by go_simp; first | done | with_reducible rfl) rfl ?_
        try simp only [Act.put, List.setIfInBounds_toArray, List.set_cons_zero, List.set_cons_succ]
        refine rk_step (fuel := 6) 4 rfl (by kernel_rfl) (listed' := #[true, true, true, true, true, false, true, false, false, false, false, false]) (by kernel_rfl) (by kernel_rfl) (fun K' hK => ?_)
        go_wp2_with (first | (go_at_call 19; refine (f_bytes HTX.out.drew (over q s) nb rfl HNB.out).mono ?_; rintro e wa ⟨A7, c7, rfl, hu7, hb7, ht7⟩; have HU7 := Aside0.mk hu7; have HK7 := Aside0.mk (Keep.of_below (S := fun _ => False) hb7); have HT7 := Aside0.mk ht7; clear hu7 hb7 ht7))
        refine hK.out _ _ HK7.out ?_
        clear hK K'
        try simp only [Act.put, List.setIfInBounds_toArray, List.set_cons_zero, List.set_cons_succ]
        refine rk_take (fuel := 5) 5 rfl (by kernel_rfl) (listed' := #[true, true, true, true, true, true, true, false, false, false, false, false]) (by kernel_rfl) (fun _ _ _ h => h) (by kernel_rfl) (fun w' hR => by have x0 := (obtainC HU7.out) w' (hR.below (Nat.le_refl _) (fun _ _ h => h)); go_simp; first | done | with_reducible rfl) rfl ?_
        try simp only [Act.put, List.setIfInBounds_toArray, List.set_cons_zero, List.set_cons_succ]
        refine rk_step (fuel := 4) 7 rfl (by kernel_rfl) (listed' := #[true, true, true, true, true, true, true, true, false, false, false, false]) (by kernel_rfl) (by kernel_rfl) (fun K' hK => ?_)
        go_wp2_with (first | (go_at_call 21; refine (m_bytes HT7.out (over q s) nb rfl HNB.out).mono ?_; rintro e wb ⟨A8, c8, rfl, hu8, hb8, ht8⟩; have HU8 := Aside0.mk hu8; have HK8 := Aside0.mk (Keep.of_below (S := fun _ => False) hb8); have HT8 := Aside0.mk ht8; clear hu8 hb8 ht8))
        refine hK.out _ _ HK8.out ?_
        clear hK K'
        try simp only [Act.put, List.setIfInBounds_toArray, List.set_cons_zero, List.set_cons_succ]
        refine rk_take (fuel := 3) 8 rfl (by kernel_rfl) (listed' := #[true, true, true, true, true, true, true, true, true, false, false, false]) (by kernel_rfl) (fun _ _ _ h => h) (by kernel_rfl) (fun w' hR => by have x0 := (obtainC HU8.out) w' (hR.below (Nat.le_refl _) (fun _ _ h => h)); go_simp; first | done | with_reducible rfl) rfl ?_
        try simp only [Act.put, List.setIfInBounds_toArray, List.set_cons_zero, List.set_cons_succ]
        refine rk_take (fuel := 2) 9 rfl (by kernel_rfl) (listed' := #[true, true, true, true, true, true, true, true, true, true, false, false]) (by kernel_rfl) (fun _ _ _ h => h) (by kernel_rfl) (fun w' hR => by go_simp; first | done | with_reducible rfl) rfl ?_
        try simp only [Act.put, List.setIfInBounds_toArray, List.set_cons_zero, List.set_cons_succ]
        refine rk_take (fuel := 1) 10 rfl (by kernel_rfl) (listed' := #[true, true, true, true, true, true, true, true, true, true, true, false]) (by kernel_rfl) (fun _ _ _ h => h) (by kernel_rfl) (fun w' hR => by go_simp; first | done | with_reducible rfl) rfl ?_
        try simp only [Act.put, List.setIfInBounds_toArray, List.set_cons_zero, List.set_cons_succ]
        refine rk_take (fuel := 0) 11 rfl (by kernel_rfl) (listed' := #[true, true, true, true, true, true, true, true, true, true, true, true]) (by kernel_rfl) (fun _ _ _ h => h) (by kernel_rfl) (fun w' hR => by go_simp; first | done | with_reducible rfl) rfl ?_
        try simp only [Act.put, List.setIfInBounds_toArray, List.set_cons_zero, List.set_cons_succ]
        refine rk_done (by kernel_rfl) ?_
        go_wp2
        go_ret
        exact ⟨rfl, HT8.out.keep.below (Nat.le_refl _) (fun _ _ h => h)⟩
      have e100 : decide ((100 : Int) < keep.length) = false := by simp; omega
      clear HAX
      obtain ⟨W, hW⟩ : ∃ W, W = wr.alloc (.cells #[.int .u8 kd, .int .i64 i, .bool raw, .slice A3 b.length c3, .slice B3 keep.length d3] 35) := ⟨_, rfl⟩
      have hws : W.heap.size = wr.heap.size + 1 := by rw [hW]; exact World.size_alloc _ _
      have hwk : Below wr.heap.size wr W := by rw [hW]; exact (Below.refl _ _).alloc (Nat.le_refl _) _
      have hwn : W.heap[wr.heap.size]? = some (.cells #[.int .u8 kd, .int .i64 i, .bool raw, .slice A3 b.length c3, .slice B3 keep.length d3] 35 (0, 0)) := by rw [hW]; exact heap_alloc_new _ _
      have hzw := HW.out.size
      have HTB := Aside0.mk (HT.out.rebase hwk)
      have HWW := Aside0.mk (HW.out.trans (hwk.mono hzw))
      have HWN := Aside0.mk hwn
      clear hwk hwn
      obtain ⟨L, hL⟩ : ∃ L, (over q s).length = L := ⟨_, rfl⟩
      have hL1 := HT.out.ok.1.all.1
      rw [hL] at hL1
      have HL := Aside0.mk hL
      clear hL HT
      go_upto_region 11 with fail
      rw [← hW]
      clear hW r0 r1 r2 r3 r4
      go_upto_region 12 with (first | (go_at_call 21; refine (m_bytes HTB.out (over q s) L rfl HL.out).mono ?_; rintro e w2 ⟨A6, c6, rfl, -, hb6, ht6⟩; have HB6 := Aside0.mk hb6; have HT6 := Aside0.mk ht6; clear hb6 ht6))
      have hbox2 := (HB6.out.block wr.heap.size (by omega)).trans HWN.out
      have r0 : w2.cell? ⟨wr.heap.size, 0, none⟩ = some (.int .u8 kd) := by simp [World.cell?, hbox2]
      have r1 : w2.cell? ⟨wr.heap.size, 1, none⟩ = some (.int .i64 i) := by simp [World.cell?, hbox2]
      have r2 : w2.cell? ⟨wr.heap.size, 2, none⟩ = some (.bool raw) := by simp [World.cell?, hbox2]
      have rf := blk_frozen hbox2 1
      have HX2 := Aside0.mk hbox2
      have hz6 := HB6.out.size
      have HWW2 := Aside0.mk (HWW.out.trans (HB6.out.mono (by omega)))
      clear hbox2 HTB HWN HWW HB6
      go_upto_if 64 with fail
      go_cut [] (fun wx => ∃ i' : Int, -9223372036854775808 ≤ i' ∧ i' ≤ 9223372036854775807 ∧ Aside0 (wx.heap[wr.heap.size]? = some (.cells #[.int .u8 kd, .int .i64 i', .bool raw, .slice A3 b.length c3, .slice B3 keep.length d3] 35 (0, 0))) ∧ Aside0 (Two wx (fun k => w.heap.size ≤ k ∧ k ≠ wr.heap.size) wx g1 g2 room s q s q) ∧ Aside0 (Below w.heap.size w wx) ∧ wr.heap.size < wx.heap.size)
      case first =>
        cases raw with
        | true =>
          go_wp2_with fail
          go_meet
          exact ⟨i, hi0, hi1, HX2, ⟨(HT6.out.rebase (Below.refl _ _)).mono (fun k hk => by
            rcases hk.1 with h | h
            · exact ⟨h.1.resolve_left (fun h => h), by omega⟩
            · exact ⟨by omega, by omega⟩)⟩, HWW2, by omega⟩
        | false =>
          obtain ⟨iu, hiu⟩ : ∃ x, IntKind.u64.wrap i = x := ⟨_, rfl⟩
          obtain ⟨p, hpm⟩ : ∃ x, iu.tmod ((L : Int) + 1) = x := ⟨_, rfl⟩
          have hiu0 := (wrU64_range i).1
          rw [hiu] at hiu0
          have hpr := tmod_range hiu0 (show (0 : Int) < (L : Int) + 1 by omega)
          rw [hpm] at hpr
          obtain ⟨hp0, hp1⟩ := hpr
          have y1 := wrI64 ((L : Int) + 1) (by omega) (by omega)
          have y2 := wrU64 ((L : Int) + 1) (by omega) (by omega)
          have y3 := wrI64 p (by omega) (by omega)
          have y4 : ((L : Int) + 1 = 0) = False := by simp; omega
          go_wp2_with fail
          go_meet
          refine ⟨p, by omega, by omega, ⟨heap_setCell_same w2 wr.heap.size 1 _ 35 _ HX2.out⟩, ⟨(HT6.out.setNew (by omega) (fun h => by omega) 1 _).mono (fun k hk => by
            rcases hk.1 with h | h
            · exact ⟨h.1.resolve_left (fun h => h), by omega⟩
            · exact ⟨by omega, by omega⟩)⟩, ⟨HWW2.out.setCell (by show w.heap.size ≤ wr.heap.size; omega) _⟩, by rw [World.size_setCell]; omega⟩
      case rest =>
        obtain ⟨i', hj0, hj1, HX3, HT3, HW3, hz3⟩ := hcut
        clear HX2 HT6 HWW2 r0 r1 r2 rf HL
        have hbox3 := HX3.out
        have r0 : wc.cell? ⟨wr.heap.size, 0, none⟩ = some (.int .u8 kd) := by simp [World.cell?, hbox3]
        clear hbox3
        have hz4 := HW3.out.size
        obtain ⟨wb, rfl⟩ : ∃ wb, wb = wc := ⟨_, rfl⟩
        have HCbb := Aside0.mk (Kd.C_below HCb.out HW3.out)
        go_upto_block 2 with fail
        go_cut [] (fun wx => ∃ (s' : List Int) (q' : List (Int × List Int)), q'.length ≤ k + 1 ∧ Aside0 (Two wb (fun k => w.heap.size ≤ k ∧ k ≠ wr.heap.size) wx g1 g2 room s' q' s' q'))
        case first =>
          clear r0
          have p0 := HX3.out
          have p1 : wb.cell? ⟨wr.heap.size, 1, none⟩ = some (.int .i64 i') := by simp [World.cell?, p0]
          have p3 : wb.cell? ⟨wr.heap.size, 3, none⟩ = some (.slice A3 b.length c3) := by simp [World.cell?, p0]
          have p4 : wb.cell? ⟨wr.heap.size, 4, none⟩ = some (.slice B3 keep.length d3) := by simp [World.cell?, p0]
          clear p0
          have hkd : kd % 7 = 4 ∨ kd % 7 = 5 ∨ kd % 7 = 6 ∨ (kd % 7 ≠ 4 ∧ kd % 7 ≠ 5 ∧ kd % 7 ≠ 6) := by omega
          rcases hkd with h7 | h7 | h7 | h7
          case inl =>
            have b4 : (kd % 7 == 4) = true := by rw [h7]; rfl
            have b5 : (kd % 7 == 5) = false := by rw [h7]; rfl
            have b6 : (kd % 7 == 6) = false := by rw [h7]; rfl
            clear h7
            go_wp2_with (first
              | (go_at_call 17; refine (f_sync HT3.out).mono ?_; rintro e w4 ⟨rfl, ht4⟩; have HT4 := Aside0.mk ht4; clear ht4)
              | (go_at_call 22; refine (m_sync HT4.out).mono ?_; rintro e w5 ⟨rfl, ht5⟩; have HT5 := Aside0.mk ht5; clear ht5))
            go_meet
            exact ⟨_, _, by simp, HT5⟩
          case inr.inl =>
            have b4 : (kd % 7 == 4) = false := by rw [h7]; rfl
            have b5 : (kd % 7 == 5) = true := by rw [h7]; rfl
            have b6 : (kd % 7 == 6) = false := by rw [h7]; rfl
            clear h7 p3 p4
            go_wp2_with fail
            have HCUR := Aside0.mk (Keep.refl (fun k => w.heap.size ≤ k ∧ k ≠ wr.heap.size) wb.drew)
            have HF := Aside0.mk (show ∀ W', Keep (fun k => w.heap.size ≤ k ∧ k ≠ wr.heap.size) wb.drew W' → W'.cell? ⟨wr.heap.size, 1, none⟩ = some (.int .i64 i') from fun W' hW' => by
              have h := (hW'.block wr.heap.size hz3 (fun h => h.2 rfl)).trans HX3.out
              simp [World.cell?, h])
            clear p1
            refine rk_start (fun k => w.heap.size ≤ k ∧ k ≠ wr.heap.size) (by kernel_rfl) (n := 9) (l := #[false, false, false, false, false, false, false, false, false]) (by kernel_rfl) (by kernel_rfl) ?_
            refine rk_take (fuel := 8) 0 rfl (by kernel_rfl) (listed' := #[true, false, false, false, false, false, false, false, false]) (by kernel_rfl) (fun _ _ _ h => h) (by kernel_rfl) (fun w' hR => by go_simp; first | done | with_reducible rfl) rfl ?_
            try simp only [Act.put, List.setIfInBounds_toArray, List.set_cons_zero, List.set_cons_succ]
            refine rk_take (fuel := 7) 1 rfl (by kernel_rfl) (listed' := #[true, true, false, false, false, false, false, false, false]) (by kernel_rfl) (fun _ _ _ h => h) (by kernel_rfl) (fun w' hR => by go_simp; first | done | with_reducible rfl) rfl ?_
            try simp only [Act.put, List.setIfInBounds_toArray, List.set_cons_zero, List.set_cons_succ]
            refine rk_take (fuel := 6) 2 rfl (by kernel_rfl) (listed' := #[true, true, true, false, false, false, false, false, false]) (by kernel_rfl) (fun _ _ _ h => h) (by kernel_rfl) (fun w' hR => by have x0 := HF.out w' (HCUR.out.trans hR); go_simp; first | done | with_reducible rfl) rfl ?_
            try simp only [Act.put, List.setIfInBounds_toArray, List.set_cons_zero, List.set_cons_succ]
            refine rk_take (fuel := 5) 4 rfl (by kernel_rfl) (listed' := #[true, true, true, false, true, false, false, false, false]) (by kernel_rfl) (fun _ _ _ h => h) (by kernel_rfl) (fun w' hR => by go_simp; first | done | with_reducible rfl) rfl ?_
            try simp only [Act.put, List.setIfInBounds_toArray, List.set_cons_zero, List.set_cons_succ]
            refine rk_take (fuel := 4) 5 rfl (by kernel_rfl) (listed' := #[true, true, true, false, true, true, false, false, false]) (by kernel_rfl) (fun _ _ _ h => h) (by kernel_rfl) (fun w' hR => by go_simp; first | done | with_reducible rfl) rfl ?_
            try simp only [Act.put, List.setIfInBounds_toArray, List.set_cons_zero, List.set_cons_succ]
            refine rk_take (fuel := 3) 6 rfl (by kernel_rfl) (listed' := #[true, true, true, false, true, true, true, false, false]) (by kernel_rfl) (fun _ _ _ h => h) (by kernel_rfl) (fun w' hR => by have x0 := HF.out w' (HCUR.out.trans hR); go_simp; first | done | with_reducible rfl) rfl ?_
            try simp only [Act.put, List.setIfInBounds_toArray, List.set_cons_zero, List.set_cons_succ]
            refine rk_step (fuel := 2) 3 rfl (by kernel_rfl) (listed' := #[true, true, true, true, true, true, true, false, false]) (by kernel_rfl) (by kernel_rfl) (fun K' hK => ?_)
            go_wp2_with (first | (go_at_call 23; refine (f_cut (HT3.out.rebase (Below.refl wb.heap.size wb).drew) i').mono ?_; rintro e w4 ⟨rfl, ht4⟩; have HT4 := Aside0.mk (ht4.mono (M := fun k => w.heap.size ≤ k ∧ k ≠ wr.heap.size) (fun k h => by obtain ⟨h1, h2⟩ := h; rcases h1 with h1 | h1 <;> omega)); clear ht4))
            refine hK.out _ _ (HT4.out.keep) ?_
            clear hK K'
            try simp only [Act.put, List.setIfInBounds_toArray, List.set_cons_zero, List.set_cons_succ]
            refine rk_step (fuel := 1) 7 rfl (by kernel_rfl) (listed' := #[true, true, true, true, true, true, true, true, false]) (by kernel_rfl) (by kernel_rfl) (fun K' hK => ?_)
            go_wp2_with (first | (go_at_call 24; refine (m_cut (HT4.out.rebase (Below.refl _ _)) i').mono ?_; rintro e w5 ⟨rfl, ht5⟩; have hzz := HT4.out.keep.size; have HT5 := Aside0.mk (ht5.mono (M := fun k => w.heap.size ≤ k ∧ k ≠ wr.heap.size) (fun k h => by have hzd : wb.drew.heap.size = wb.heap.size := rfl; obtain ⟨h1, h2⟩ := h; rcases h1 with h1 | h1 <;> omega)); clear ht5))
            refine hK.out _ _ (HT5.out.keep) ?_
            clear hK K'
            try simp only [Act.put, List.setIfInBounds_toArray, List.set_cons_zero, List.set_cons_succ]
            refine rk_take (fuel := 0) 8 rfl (by kernel_rfl) (listed' := #[true, true, true, true, true, true, true, true, true]) (by kernel_rfl) (fun _ _ _ h => h) (by kernel_rfl) (fun w' hR => by go_simp; first | done | with_reducible rfl) rfl ?_
            try simp only [Act.put, List.setIfInBounds_toArray, List.set_cons_zero, List.set_cons_succ]
            refine rk_done (by kernel_rfl) ?_
            go_wp2_with fail
            go_meet
            exact ⟨cutS s q i', cutQ s q i', Nat.le_trans (cutQ_len _ _ _) (by omega), ⟨(HT5.out.back (W0 := wb.drew) (N := fun k => w.heap.size ≤ k ∧ k ≠ wr.heap.size) (fun k h => .inl h) HT4.out.keep).back (W0 := wb) (fun k h => .inl h) ((Keep.refl _ wb).drew)⟩⟩
          case inr.inr.inl =>
            have b4 : (kd % 7 == 4) = false := by rw [h7]; rfl
            have b5 : (kd % 7 == 5) = false := by rw [h7]; rfl
            have b6 : (kd % 7 == 6) = true := by rw [h7]; rfl
            clear h7 p1 p3
            have HCk3 := Aside0.mk (Kd.C_below HCk.out HW3.out)
            go_wp2_with (first
              | (go_at_call 18; refine (f_crash HT3.out B3 d3 keep HCk3.out (fun a ha h0 => ⟨fun h => by have := C_lt HCk.out h0 a ha; omega, by have := C_lt HCk.out h0 a ha; omega⟩) HKR.out).mono ?_; rintro e w4 ⟨rfl, ht4⟩; have HT4 := Aside0.mk ht4; have hbx := (ht4.keep.block wr.heap.size hz3 (fun h => h.2 rfl)).trans HX3.out; have p5 : w4.cell? ⟨wr.heap.size, 4, none⟩ = some (.slice B3 keep.length d3) := (by simp [World.cell?, hbx]); clear ht4 hbx p4; have HCk4 := Aside0.mk (Kd.C_below HCk.out (HW3.out.trans (HT4.out.keep.below hz4 (fun k hk h => by omega)))))
              | (go_at_call 25; refine (m_crash HT4.out B3 d3 keep HCk4.out HKR.out).mono ?_; rintro e w5 ⟨rfl, ht5⟩; have HT5 := Aside0.mk ht5; clear ht5))
            go_meet
            exact ⟨_, _, by simp, HT5⟩
          case inr.inr.inr =>
            have b4 : (kd % 7 == 4) = false := beq_eq_false_iff_ne.mpr h7.1
            have b5 : (kd % 7 == 5) = false := beq_eq_false_iff_ne.mpr h7.2.1
            have b6 : (kd % 7 == 6) = false := beq_eq_false_iff_ne.mpr h7.2.2
            clear h7 p1 p4
            have p0 : True := trivial
            go_wp2_with (first
              | ((with_reducible refine gate_builtin (b := .append) (xs := #[.tmp 77, .tmp 79]) rfl ?_); at_builtin; refine Kd.R_append_rows (Kd.int .u8) (w0 := wb) wb.heap.size rfl (.tmp 77) (.tmp 79) 22 5 (.int .u8 0) 1 rfl Try.underlying22 infoU8 rfl (by decide) (by omega) (.slice (some ⟨wb.heap.size, 0, none⟩) 0 0) ([] : List Int) b _ _ _ (fun _ => True) (fun _ => False) rfl rfl ?aO ?aR (fun _ _ h => h) (fun _ h => h.elim) ?aF ?aB ?aS ?aL ?_; (case aR => exact Kd.C_alloc HCbb.out _); (case aB => exact (Below.refl _ _).alloc (Nat.le_refl _) _); (case aF => exact (fun _ _ => trivial)); (case aO => exact R_lit0 kU8 5 wb); (case aS => simp); (case aL => (simp only [List.length_nil]; omega)); (intro v4 w4 ho hb4 hg hat; rw [List.nil_append] at ho; have hu := (Buf.of_R ho).mono (S' := fun k => wb.heap.size ≤ k) (fun k hk _ => hk.2.1); obtain ⟨A8, c8, rfl, -, hC8, -⟩ := hu.reads; have hbx := (hb4.block wr.heap.size hz3).trans HX3.out; have p1 : w4.cell? ⟨wr.heap.size, 1, none⟩ = some (.int .i64 i') := (by simp [World.cell?, hbx]); have HU4 := Aside0.mk hu; have HC8 := Aside0.mk hC8; have HB4 := Aside0.mk hb4; have HT4 := Aside0.mk (HT3.out.rebase hb4); clear ho hb4 hg hat hu hC8 hbx))
              | (go_at_call 16; refine (f_write HT4.out (by omega) i' hj0 hj1 A8 c8 b HC8.out HBY.out).mono ?_; rintro e w5 ⟨rfl, ht5⟩; have HT5 := Aside0.mk ht5; clear ht5 p1))
            have HOW := Aside0.mk (show ∀ k, (Value.slice A8 b.length c8).ownBlock = some k → wb.heap.size ≤ k ∧ k < w4.heap.size from fun k hk => HU4.out.own k hk)
            have HU5 := Aside0.mk (HU4.out.exact.keep HT5.out.keep (fun k hk h => by have := HOW.out k hk; omega))
            clear p0 HT4 HC8
            obtain ⟨wo, rfl⟩ : ∃ wo, wo = wr := ⟨_, rfl⟩
            go_loopw [88] (fun vi wr' => ∃ (j : Nat) (xs : List Int), j ≤ b.length ∧ vi = .int .i64 j ∧ Aside0 (xs.length = b.length) ∧ Aside0 (Buf .u8 5 wr' (fun i => (Value.slice A8 b.length c8).ownBlock = some i) (.slice A8 b.length c8) xs) ∧ Aside0 (Keep (fun i => (Value.slice A8 b.length c8).ownBlock = some i) w5 wr')) (fun vi _ => b.length - (intOf vi).toNat)
            case atStart => exact ⟨0, b, by omega, rfl, ⟨rfl⟩, HU5, ⟨Keep.refl _ _⟩⟩
            case round =>
              obtain ⟨j, xs, hj, rfl, HXL, HU, HKK⟩ := hrel
              have hxl := HXL.out
              by_cases hjn : j < b.length
              · obtain ⟨gb, rfl, -, -⟩ := HU.out.head (by omega)
                obtain ⟨x, -, hcx, hfx⟩ := HU.out.at (j := j) (by omega)
                have hset := fun y : Int => HU.out.set j (by omega) y
                have HSET := Aside0.mk hset
                clear hset hxl
                go_wp2
                go_roundw
                case rel => exact ⟨j + 1, _, by omega, by go_num, ⟨by rw [List.length_set]; exact HXL.out⟩, ⟨HSET.out _⟩, ⟨HKK.out.setCell _ _ (fun _ => rfl)⟩⟩
                case measure => simp [intOf]; omega
              · have hjd : decide (j < b.length) = false := by simp; omega
                clear hj hjn
                have hz5 := HB4.out.size
                have hz6 := HT5.out.keep.size
                have hKE : Keep (fun k => (k = k ∧ (Value.slice A8 b.length c8).ownBlock = some k)) w5 wr := HKK.out.mono (fun k _ h => ⟨rfl, h⟩)
                have hM : ∀ k, (((w.heap.size ≤ k ∧ k ≠ wo.heap.size) ∨ wb.heap.size ≤ k) ∧ k < wb.heap.size) ∨ (k = k ∧ (Value.slice A8 b.length c8).ownBlock = some k) → (w.heap.size ≤ k ∧ k ≠ wo.heap.size) := fun k h => by
                  rcases h with ⟨h | h, h'⟩ | ⟨-, h⟩
                  · exact h
                  · omega
                  · have := HOW.out k h; omega
                have HT9 := Aside0.mk (HT5.out.touch hKE (fun k h => by have := HOW.out k h.2; exact ⟨fun h => by omega, by omega⟩) (M := fun k => w.heap.size ≤ k ∧ k ≠ wo.heap.size) hM)
                have hbox9 := (HKK.out.block wo.heap.size (by have := HT5.out.keep.size; omega) (fun h => by have := HOW.out _ h; omega)).trans ((HT5.out.keep.block wo.heap.size (by omega) (fun h => by rcases h.1 with h | h <;> omega)).trans ((HB4.out.block wo.heap.size hz3).trans HX3.out))
                have p1 : wr.cell? ⟨wo.heap.size, 1, none⟩ = some (.int .i64 i') := by simp [World.cell?, hbox9]
                have p3 : wr.cell? ⟨wo.heap.size, 3, none⟩ = some (.slice A3 b.length c3) := by simp [World.cell?, hbox9]
                have HC9 := Aside0.mk (Kd.C_below HCb.out (((HW3.out.trans (HB4.out.mono hz4)).trans (HT9.out.keep.below (Nat.le_trans hz4 HB4.out.size) (fun k hk h => by omega)))))
                clear hbox9 hKE hM
                go_wp2_with (first | (go_at_call 26; refine (m_write HT9.out (by omega) i' hj0 hj1 A3 c3 b (by omega) HC9.out HBY.out).mono ?_; rintro e w9 ⟨rfl, ht9⟩; have HT10 := Aside0.mk ht9; clear ht9))
                go_meet
                exact ⟨s, wrQ room s q i' b, Nat.le_trans (wrQ_len _ _ _ _ _) (by omega), ⟨HT10.out.back (W0 := wb) (N := fun k => w.heap.size ≤ k ∧ k ≠ wo.heap.size) (fun k h => .inl h) (Keep.of_below HB4.out)⟩⟩
        case rest =>
          obtain ⟨s', q', hq', HTD⟩ := hcut
          obtain ⟨wd, rfl⟩ : ∃ wd, wd = wc := ⟨_, rfl⟩
          obtain ⟨nb, hnb⟩ : ∃ nb, (over q' s').length = nb := ⟨_, rfl⟩
          have HNB := Aside0.mk hnb
          have hnb2 : nb ≤ 4194304 := by have h := HTD.out.ok.1.all.1; rw [hnb] at h; omega
          clear hnb r0 HCbb HT3 HX3
          go_wp2_with (first | (go_at_call 19; refine (f_bytes HTD.out (over q' s') nb rfl HNB.out).mono ?_; rintro e we ⟨A9, c9, rfl, hu9, hb9, ht9⟩; have HU9 := Aside0.mk hu9; have HB9 := Aside0.mk hb9; have HTE := Aside0.mk ht9; clear hu9 hb9 ht9))
          obtain ⟨Ar, cr, csr, hsr, hcsr, hgr⟩ := HTE.out.safe
          have HSR := Aside0.mk (show ∀ W, Keep (fun _ => False) we.drew W → W.cell? ⟨g2, 1, none⟩ = some (.slice Ar s'.length cr) from fun W hW => by
            have h := (hW.block g2 hgr (fun h => h)).trans hsr
            simp [World.cell?, h, hcsr])
          have HCUR := Aside0.mk (Keep.refl (fun _ => False) we.drew)
          clear hsr hcsr hgr
          refine rk_start (fun _ => False) (by kernel_rfl) (n := 16) (l := #[false, false, false, false, false, false, false, false, false, false, false, false, false, false, false, false]) (by kernel_rfl) (by kernel_rfl) ?_
          refine rk_take (fuel := 15) 0 rfl (by kernel_rfl) (listed' := #[true, false, false, false, false, false, false, false, false, false, false, false, false, false, false, false]) (by kernel_rfl) (fun _ _ _ h => h) (by kernel_rfl) (fun w' hR => by go_simp; first | done | with_reducible rfl) rfl ?_
          try simp only [Act.put, List.setIfInBounds_toArray, List.set_cons_zero, List.set_cons_succ]
          refine rk_take (fuel := 14) 1 rfl (by kernel_rfl) (listed' := #[true, true, false, false, false, false, false, false, false, false, false, false, false, false, false, false]) (by kernel_rfl) (fun _ _ _ h => h) (by kernel_rfl) (fun w' hR => by have x0 := (obtainC HU9.out) w' ((Below.refl we.heap.size we).drew.trans ((HCUR.out.trans hR).below (Nat.le_refl _) (fun _ _ h => h))); go_simp; first | done | with_reducible rfl) rfl ?_
          try simp only [Act.put, List.setIfInBounds_toArray, List.set_cons_zero, List.set_cons_succ]
          refine rk_take (fuel := 13) 2 rfl (by kernel_rfl) (listed' := #[true, true, true, false, false, false, false, false, false, false, false, false, false, false, false, false]) (by kernel_rfl) (fun _ _ _ h => h) (by kernel_rfl) (fun w' hR => by go_simp; first | done | with_reducible rfl) rfl ?_
          try simp only [Act.put, List.setIfInBounds_toArray, List.set_cons_zero, List.set_cons_succ]
          refine rk_step (fuel := 12) 3 rfl (by kernel_rfl) (listed' := #[true, true, true, true, false, false, false, false, false, false, false, false, false, false, false, false]) (by kernel_rfl) (by kernel_rfl) (fun K' hK => ?_)
          go_wp2_with (first | (go_at_call 21; refine (m_bytes HTE.out.drew (over q' s') nb rfl HNB.out).mono ?_; rintro e wf ⟨A7, c7, rfl, hu7, hb7, ht7⟩; have HU7 := Aside0.mk hu7; have HK7 := Aside0.mk (Keep.of_below (S := fun _ => False) hb7); have HTF := Aside0.mk ht7; have HCUR := Aside0.mk (HCUR.out.trans HK7.out); clear hu7 hb7 ht7))
          refine hK.out _ _ HK7.out ?_
          clear hK K'
          try simp only [Act.put, List.setIfInBounds_toArray, List.set_cons_zero, List.set_cons_succ]
          refine rk_take (fuel := 11) 4 rfl (by kernel_rfl) (listed' := #[true, true, true, true, true, false, false, false, false, false, false, false, false, false, false, false]) (by kernel_rfl) (fun _ _ _ h => h) (by kernel_rfl) (fun w' hR => by have x0 := (obtainC HU7.out) w' (hR.below (Nat.le_refl _) (fun _ _ h => h)); go_simp; first | done | with_reducible rfl) rfl ?_
          try simp only [Act.put, List.setIfInBounds_toArray, List.set_cons_zero, List.set_cons_succ]
          refine rk_take (fuel := 10) 5 rfl (by kernel_rfl) (listed' := #[true, true, true, true, true, true, false, false, false, false, false, false, false, false, false, false]) (by kernel_rfl) (fun _ _ _ h => h) (by kernel_rfl) (fun w' hR => by go_simp; first | done | with_reducible rfl) rfl ?_
          try simp only [Act.put, List.setIfInBounds_toArray, List.set_cons_zero, List.set_cons_succ]
          refine rk_take (fuel := 9) 6 rfl (by kernel_rfl) (listed' := #[true, true, true, true, true, true, true, false, false, false, false, false, false, false, false, false]) (by kernel_rfl) (fun _ _ _ h => h) (by kernel_rfl) (fun w' hR => by go_simp; first | done | with_reducible rfl) rfl ?_
          try simp only [Act.put, List.setIfInBounds_toArray, List.set_cons_zero, List.set_cons_succ]
          refine rk_take (fuel := 8) 7 rfl (by kernel_rfl) (listed' := #[true, true, true, true, true, true, true, true, false, false, false, false, false, false, false, false]) (by kernel_rfl) (fun _ _ _ h => h) (by kernel_rfl) (fun w' hR => by go_simp; first | done | with_reducible rfl) rfl ?_
          try simp only [Act.put, List.setIfInBounds_toArray, List.set_cons_zero, List.set_cons_succ]
          refine rk_take (fuel := 7) 9 rfl (by kernel_rfl) (listed' := #[true, true, true, true, true, true, true, true, false, true, false, false, false, false, false, false]) (by kernel_rfl) (fun _ _ _ h => h) (by kernel_rfl) (fun w' hR => by go_simp; first | done | with_reducible rfl) rfl ?_
          try simp only [Act.put, List.setIfInBounds_toArray, List.set_cons_zero, List.set_cons_succ]
          refine rk_take (fuel := 6) 10 rfl (by kernel_rfl) (listed' := #[true, true, true, true, true, true, true, true, false, true, true, false, false, false, false, false]) (by kernel_rfl) (fun _ _ _ h => h) (by kernel_rfl) (fun w' hR => by go_simp; first | done | with_reducible rfl) rfl ?_
          try simp only [Act.put, List.setIfInBounds_toArray, List.set_cons_zero, List.set_cons_succ]
          refine rk_take (fuel := 5) 11 rfl (by kernel_rfl) (listed' := #[true, true, true, true, true, true, true, true, false, true, true, true, false, false, false, false]) (by kernel_rfl) (fun _ _ _ h => h) (by kernel_rfl) (fun w' hR => by go_simp; first | done | with_reducible rfl) rfl ?_
          try simp only [Act.put, List.setIfInBounds_toArray, List.set_cons_zero, List.set_cons_succ]
          refine rk_take (fuel := 4) 12 rfl (by kernel_rfl) (listed' := #[true, true, true, true, true, true, true, true, false, true, true, true, true, false, false, false]) (by kernel_rfl) (fun _ _ _ h => h) (by kernel_rfl) (fun w' hR => by have x0 := HSR.out w' (HCUR.out.trans hR); go_simp; first | done | with_reducible rfl) rfl ?_
          try simp only [Act.put, List.setIfInBounds_toArray, List.set_cons_zero, List.set_cons_succ]
          refine rk_take (fuel := 3) 13 rfl (by kernel_rfl) (listed' := #[true, true, true, true, true, true, true, true, false, true, true, true, true, true, false, false]) (by kernel_rfl) (fun _ _ _ h => h) (by kernel_rfl) (fun w' hR => by go_simp; first | done | with_reducible rfl) rfl ?_
          try simp only [Act.put, List.setIfInBounds_toArray, List.set_cons_zero, List.set_cons_succ]
          refine rk_step (fuel := 2) 8 rfl (by kernel_rfl) (listed' := #[true, true, true, true, true, true, true, true, true, true, true, true, true, true, false, false]) (by kernel_rfl) (by kernel_rfl) (fun K' hK => ?_)
          go_wp2_with (first | (go_at_call 20; refine (f_sure HTF.out).mono ?_; rintro e wi ⟨rfl, rfl⟩))
          refine hK.out _ _ (Keep.refl _ _) ?_
          clear hK K'
          try simp only [Act.put, List.setIfInBounds_toArray, List.set_cons_zero, List.set_cons_succ]
          refine rk_take (fuel := 1) 14 rfl (by kernel_rfl) (listed' := #[true, true, true, true, true, true, true, true, true, true, true, true, true, true, true, false]) (by kernel_rfl) (fun _ _ _ h => h) (by kernel_rfl) (fun w' hR => by go_simp; first | done | with_reducible rfl) rfl ?_
          try simp only [Act.put, List.setIfInBounds_toArray, List.set_cons_zero, List.set_cons_succ]
          refine rk_take (fuel := 0) 15 rfl (by kernel_rfl) (listed' := #[true, true, true, true, true, true, true, true, true, true, true, true, true, true, true, true]) (by kernel_rfl) (fun _ _ _ h => h) (by kernel_rfl) (fun w' hR => by go_simp; first | done | with_reducible rfl) rfl ?_
          try simp only [Act.put, List.setIfInBounds_toArray, List.set_cons_zero, List.set_cons_succ]
          refine rk_done (by kernel_rfl) ?_
          have HDF := Aside0.mk (show Below wd.heap.size wd wf from HB9.out.drew.trans ((HK7.out.below (Nat.le_refl _) (fun _ _ h => h)).mono HB9.out.size))
          have HOW := Aside0.mk (show ∀ k, (Value.slice A9 nb c9).ownBlock = some k → wd.heap.size ≤ k ∧ k < wf.heap.size from fun k hk => ⟨(HU9.out.own k hk).1, Nat.lt_of_lt_of_le (HU9.out.own k hk).2 HK7.out.size⟩)
          have HU10 := Aside0.mk (HU9.out.exact.keep ((Keep.refl (fun _ => False) we).drew.trans HCUR.out) (fun k hk h => h))
          go_wp2_with fail
          obtain ⟨wo, rfl⟩ : ∃ wo, wo = wr := ⟨_, rfl⟩
          go_loopw [153] (fun vi wr' => ∃ (j : Nat) (xs : List Int), j ≤ nb ∧ vi = .int .i64 j ∧ Aside0 (xs.length = nb) ∧ Aside0 (Buf .u8 5 wr' (fun i => (Value.slice A9 nb c9).ownBlock = some i) (.slice A9 nb c9) xs) ∧ Aside0 (Keep (fun i => (Value.slice A9 nb c9).ownBlock = some i) wf wr')) (fun vi _ => nb - (intOf vi).toNat)
          case atStart => exact ⟨0, over q' s', by omega, rfl, HNB, HU10, ⟨Keep.refl _ _⟩⟩
          case round =>
            obtain ⟨j, xs, hj, rfl, HXL, HU, HKK⟩ := hrel
            have hxl := HXL.out
            by_cases hjn : j < nb
            · obtain ⟨gb, rfl, -, -⟩ := HU.out.head (by omega)
              obtain ⟨x, -, hcx, hfx⟩ := HU.out.at (j := j) (by omega)
              have hset := fun y : Int => HU.out.set j (by omega) y
              have HSET := Aside0.mk hset
              clear hset hxl
              go_wp2
              go_roundw
              case rel => exact ⟨j + 1, _, by omega, by go_num, ⟨by rw [List.length_set]; exact HXL.out⟩, ⟨HSET.out _⟩, ⟨HKK.out.setCell _ _ (fun _ => rfl)⟩⟩
              case measure => simp [intOf]; omega
            · have hjd : decide (j < nb) = false := by simp; omega
              clear hj hjn
              have hKE : Keep (fun k => (k = k ∧ (Value.slice A9 nb c9).ownBlock = some k)) wf wr := HKK.out.mono (fun k _ h => ⟨rfl, h⟩)
              have HT9 := Aside0.mk (((HTD.out.rebase HDF.out).touch hKE (fun k h => by have := HOW.out k h.2; exact ⟨fun h => by have h2 : k < wd.heap.size := h.2; omega, this.2⟩) (M := fun k => w.heap.size ≤ k ∧ k ≠ wo.heap.size) (fun k h => by
                rcases h with ⟨h | h, h'⟩ | ⟨-, h⟩
                · exact h
                · omega
                · have := HOW.out k h; have := HTD.out.keep.size; omega)).back (W0 := w) (N := fun _ => False) (fun k h => .inr h.1) (Keep.of_below ((HW3.out.trans (HTD.out.keep.below hz4 (fun k hk h => by omega))).trans (HDF.out.mono (Nat.le_trans hz4 HTD.out.keep.size)))))
              clear hKE
              go_wp2
              go_roundw
              case rel => exact ⟨k + 1, s', q', by omega, by omega, by go_num, hq', HT9⟩
              case measure => simp [intOf]; omega
    · have hkm : decide ((k : Int) < m.length) = false := by simp; omega
      go_upto_region 42 with fail
      have HTX := HT
      obtain ⟨nb, hnb⟩ : ∃ nb, (over q s).length = nb := ⟨_, rfl⟩
      have HNB := Aside0.mk hnb
      have HWX := Aside0.mk (HTX.out.keep.below (Nat.le_refl _) (fun _ _ h => h) : Below w.heap.size w _)
      clear hnb
      go_wp2_with fail
      refine rk_start (fun _ => False) (by kernel_rfl) (n := 12) (l := #[false, false, false, false, false, false, false, false, false, false, false, false]) (by kernel_rfl) (by kernel_rfl) ?_
      refine rk_take (fuel := 11) 0 rfl (by kernel_rfl) (listed' := #[true, false, false, false, false, false, false, false, false, false, false, false]) (by kernel_rfl) (fun _ _ _ h => h) (by kernel_rfl) (fun w' hR => by go_simp; first | done | with_reducible rfl) rfl ?_
      try simp only [Act.put, List.setIfInBounds_toArray, List.set_cons_zero, List.set_cons_succ]
      refine rk_take (fuel := 10) 1 rfl (by kernel_rfl) (listed' := #[true, true, false, false, false, false, false, false, false, false, false, false]) (by kernel_rfl) (fun _ _ _ h => h) (by kernel_rfl) (fun w' hR => by go_simp; first | done | with_reducible rfl) rfl ?_
      try simp only [Act.put, List.setIfInBounds_toArray, List.set_cons_zero, List.set_cons_succ]
      refine rk_take (fuel := 9) 2 rfl (by kernel_rfl) (listed' := #[true, true, true, false, false, false, false, false, false, false, false, false]) (by kernel_rfl) (fun _ _ _ h => h) (by kernel_rfl) (fun w' hR => by go_simp; first | done | with_reducible rfl) rfl ?_
      try simp only [Act.put, List.setIfInBounds_toArray, List.set_cons_zero, List.set_cons_succ]
      refine rk_take (fuel := 8) 3 rfl (by kernel_rfl) (listed' := #[true, true, true, true, false, false, false, false, false, false, false, false]) (by kernel_rfl) (fun _ _ _ h => h) (by kernel_rfl) (fun w' hR => by go_simp; first | done | with_reducible rfl) rfl ?_
      try simp only [Act.put, List.setIfInBounds_toArray, List.set_cons_zero, List.set_cons_succ]
      refine rk_take (fuel := 7) 6 rfl (by kernel_rfl) (listed' := #[true, true, true, true, false, false, true, false, false, false, false, false]) (by kernel_rfl) (fun _ _ _ h => h) (by kernel_rfl) (fun w' hR => by go_simp; first | done | with_reducible rfl) rfl ?_
      try simp only [Act.put, List.setIfInBounds_toArray, List.set_cons_zero, List.set_cons_succ]
      refine rk_step (fuel := 6) 4 rfl (by kernel_rfl) (listed' := #[true, true, true, true, true, false, true, false, false, false, false, false]) (by kernel_rfl) (by kernel_rfl) (fun K' hK => ?_)
      go_wp2_with (first | (go_at_call 19; refine (f_bytes HTX.out.drew (over q s) nb rfl HNB.out).mono ?_; rintro e wa ⟨A7, c7, rfl, hu7, hb7, ht7⟩; have HU7 := Aside0.mk hu7; have HK7 := Aside0.mk (Keep.of_below (S := fun _ => False) hb7); have HT7 := Aside0.mk ht7; clear hu7 hb7 ht7))
      refine hK.out _ _ HK7.out ?_
      clear hK K'
      try simp only [Act.put, List.setIfInBounds_toArray, List.set_cons_zero, List.set_cons_succ]
      refine rk_take (fuel := 5) 5 rfl (by kernel_rfl) (listed' := #[true, true, true, true, true, true, true, false, false, false, false, false]) (by kernel_rfl) (fun _ _ _ h => h) (by kernel_rfl) (fun w' hR => by have x0 := (obtainC HU7.out) w' (hR.below (Nat.le_refl _) (fun _ _ h => h)); go_simp; first | done | with_reducible rfl) rfl ?_
      try simp only [Act.put, List.setIfInBounds_toArray, List.set_cons_zero, List.set_cons_succ]
      refine rk_step (fuel := 4) 7 rfl (by kernel_rfl) (listed' := #[true, true, true, true, true, true, true, true, false, false, false, false]) (by kernel_rfl) (by kernel_rfl) (fun K' hK => ?_)
      go_wp2_with (first | (go_at_call 21; refine (m_bytes HT7.out (over q s) nb rfl HNB.out).mono ?_; rintro e wb ⟨A8, c8, rfl, hu8, hb8, ht8⟩; have HU8 := Aside0.mk hu8; have HK8 := Aside0.mk (Keep.of_below (S := fun _ => False) hb8); have HT8 := Aside0.mk ht8; clear hu8 hb8 ht8))
      refine hK.out _ _ HK8.out ?_
      clear hK K'
      try simp only [Act.put, List.setIfInBounds_toArray, List.set_cons_zero, List.set_cons_succ]
      refine rk_take (fuel := 3) 8 rfl (by kernel_rfl) (listed' := #[true, true, true, true, true, true, true, true, true, false, false, false]) (by kernel_rfl) (fun _ _ _ h => h) (by kernel_rfl) (fun w' hR => by have x0 := (obtainC HU8.out) w' (hR.below (Nat.le_refl _) (fun _ _ h => h)); go_simp; first | done | with_reducible rfl) rfl ?_
      try simp only [Act.put, List.setIfInBounds_toArray, List.set_cons_zero, List.set_cons_succ]
      refine rk_take (fuel := 2) 9 rfl (by kernel_rfl) (listed' := #[true, true, true, true, true, true, true, true, true, true, false, false]) (by kernel_rfl) (fun _ _ _ h => h) (by kernel_rfl) (fun w' hR => by go_simp; first | done | with_reducible rfl) rfl ?_
      try simp only [Act.put, List.setIfInBounds_toArray, List.set_cons_zero, List.set_cons_succ]
      refine rk_take (fuel := 1) 10 rfl (by kernel_rfl) (listed' := #[true, true, true, true, true, true, true, true, true, true, true, false]) (by kernel_rfl) (fun _ _ _ h => h) (by kernel_rfl) (fun w' hR => by go_simp; first | done | with_reducible rfl) rfl ?_
      try simp only [Act.put, List.setIfInBounds_toArray, List.set_cons_zero, List.set_cons_succ]
      refine rk_take (fuel := 0) 11 rfl (by kernel_rfl) (listed' := #[true, true, true, true, true, true, true, true, true, true, true, true]) (by kernel_rfl) (fun _ _ _ h => h) (by kernel_rfl) (fun w' hR => by go_simp; first | done | with_reducible rfl) rfl ?_
      try simp only [Act.put, List.setIfInBounds_toArray, List.set_cons_zero, List.set_cons_succ]
      refine rk_done (by kernel_rfl) ?_
      go_wp2
      go_ret
      exact ⟨rfl, HT8.out.keep.below (Nat.le_refl _) (fun _ _ h => h)⟩
theorem own : ownKnob Try.prog.godebug = none := by kernel_rfl
theorem laidOut : laidOutB Try.prog = true := by kernel_rfl
def IsRow (k : IntKind) (w : World) (a : Option Addr) (len cap : Nat) (zs : List Int) : Prop :=
  (a = none ∧ len = 0 ∧ cap = 0 ∧ zs = []) ∨
  ∃ x, a = some x ∧ len ≤ cap ∧ cap ≤ maxLen ∧ zs.length = cap ∧ (∀ i, i < zs.length → w.cell? (x.add i) = some (.int k (zs.getD i 0))) ∧ ∀ n ∈ zs, (Lit.int k n).wf = true
set_option maxRecDepth 100000 in
theorem lifted (os : Os) (started : os.Started) (H : Type) (enc : TypeId × Value → H) :
    ReturnsInHanded {} Try.checked os 6 .any (Rows.filePlaysSpec.pre6 enc Try.prog Try.f6 Rows.filePlaysRow.domain false) (Rows.filePlaysSpec.post enc Try.prog Try.f6 false true false false) := by
  refine returnsInHanded_of_change_sized (C := Try.checked) own started (by kernel_rfl) Try.func6
    (ChangeSpec.witness6 (enc := enc) (C := Try.checked) false ⟨#[], #[.int .i64 0, .slice none 0 0], []⟩ 8 (by kernel_rfl) (by kernel_rfl) (by kernel_rfl) (by kernel_rfl)) ?_
  intro W base args ds gs before hval0 hW hcnd hsz0 _
  have hsz : (DataW.weightsEach Try.prog (Try.f6.params.toList ++ Rows.filePlaysSpec.plain.varTypes Try.prog) (ds ++ gs)).all (· ≤ reachBytes) = true := hsz0
  have hval : ∀ (j : Nat) t v, Try.f6.params[j]? = some t → args[j]? = some v → Value.okWide Try.prog W .any base t v := hval0
  have hW' := hW
  obtain ⟨p, q, hA0, hV, rfl, hfz, hnd⟩ := hW
  have hA : DataW.TrodAll enc Try.prog W 0 (fun _ => true) true Try.f6.params.toList args.toList ds p := hA0
  rw [Try.params6] at hA hval hsz
  obtain ⟨v0, vs0, d0, ds0, p0, q0, hargs, rfl, rfl, h0, r0⟩ := trodAll_cons hA
  obtain ⟨v1, vs1, d1, ds1, p1, q1, rfl, rfl, rfl, h1, r1⟩ := trodAll_cons r0
  obtain ⟨rfl, rfl, rfl⟩ := trodAll_nil r1
  obtain rfl : args = #[v0, v1] := by cases args; simp_all
  obtain ⟨rfl, rfl⟩ := trodVars_none hV
  obtain ⟨a0, rfl, rfl, rfl, w0⟩ := open_int Try.underlying3 (hval 0 3 v0 rfl rfl) h0
  obtain ⟨a1, len1, cap1, rfl⟩ := okWide_slice Try.underlying33 (hval 1 33 v1 rfl rfl)
  have k1 := h1
  have alt1 := okWide_alt Try.underlying33 (hval 1 33 _ rfl rfl)
  have lt1 : ∀ x ∈ p1, x.block < W.heap.size := by obtain ⟨m, hm⟩ := k1; exact DataW.trod_lt m _ _ _ hm
  obtain ⟨l1, rfl, hcap1, hC1, hok1⟩ := opens_arg opens_acts h1
  clear hA0 hval0 hsz0 hsz
  refine (walk W a0 w0 _ _ l1 hC1 hcap1 hok1 alt1).mono fun e W' ⟨he, bel⟩ => ?_
  subst he
  exact ⟨_, rfl, _, _, _, [], _, [], hW', trodAll_mk1 (shut_bool Try.underlying4 _), (trodAll_cons_mk (shut_int Try.underlying3 w0) (trodAll_cons_mk (Below.trod laidOut (by kernel_rfl) (of_decide_eq_true (by kernel_rfl)) k1 bel lt1) trodAll_mk0)), rfl, bel.frame _, fun h => by cases h⟩
theorem over : Rows.filePlaysRow.holds Try.pinned (OpenSpec.ofChange Rows.filePlaysSpec) :=
  OpenClaim.holds_of_wide 6 Try.f6 rfl rfl rfl rfl rfl rfl rfl ⟨rfl, rfl, rfl, rfl, rfl⟩ rfl rfl rfl rfl rfl (by kernel_rfl) Try.func6 (by kernel_rfl)
    (of_decide_eq_true (by kernel_rfl)) (by unfold Func.isWrapper; first | (rw [if_pos (by decide +kernel)]; kernel_rfl) | (rw [if_neg (by decide +kernel)]; exact ⟨rfl, rfl⟩))
    (fun os started H enc _ => lifted os started H enc)
end Go.Proofs.Ytmklopaleiennaa.FilePlays
namespace Go.Proofs.Ytmklopaleiennaa
/-- The statement. -/
theorem filePlays_holds : Rows.FilePlaysSaid := FilePlays.over
#print axioms filePlays_holds
end Go.Proofs.Ytmklopaleiennaa
