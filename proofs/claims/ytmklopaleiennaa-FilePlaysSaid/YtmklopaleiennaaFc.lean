/- What the calls of package file come to: put, Clone. -/
import Derived.Test.YtmklopaleiennaaU
import Derived.Test.YtmklopaleiennaaFs
import Derived.Test.YtmklopaleiennaaK
import Derived.Test.YtmklopaleiennaaProg
import Derived.WalkSpells
namespace Go.Proofs.Ytmklopaleiennaa.Fc
open Go.RowKit Go.Proofs.YtmklopaleiennaaW.PrintWords Go.Proofs.YtmklopaleiennaaW.PrintLast Go.Proofs.YtmklopaleiennaaW.PrintMore Go.Proofs.Ytmklopaleiennaa.B Go.Proofs.Ytmklopaleiennaa.Fs Go.Proofs.Ytmklopaleiennaa.R
set_option linter.unusedVariables false
set_option linter.unusedSimpArgs false
def vlen : Value → Nat
  | .slice _ n _ => n
  | _ => 0
theorem infoU8 : (Try.prog.info? 5).map (fun i => (i.zero, i.size, i.bytes)) = some (some (.int .u8 0), 1, 1) := by kernel_rfl

set_option maxRecDepth 100000 in
theorem clone_calls (A : Option Addr) (c : Nat) (l : List Int) (w : World) (hC : kU8.C w A l.length l) (hll : l.length ≤ 140737488355328) :
    Calls Try.prog 35 #[.slice A l.length c] w fun e w' => ∃ v, e = .returned v ∧ kU8.R 5 w' w.heap.size (fun _ => True) v l ∧ Below w.heap.size w w' := by
  have HC := Aside0.mk hC
  have heq := fun (A : Option Addr) (n c : Nat) (W : World) => Lib.run_eql_slice_nil (P := Try.prog) W 22 5 A n c 0 0 Try.underlying22
  cases A with
  | none =>
    have hl : l = [] := by
      rcases Nat.eq_zero_or_pos l.length with h | h
      · exact List.eq_nil_of_length_eq_zero h
      · obtain ⟨ad, e, _⟩ := hC.2.2 h; cases e
    subst hl
    clear hC
    go_enter Try.func35, Try.ntmps35
    go_wp2
    go_ret
    exact ⟨_, rfl, Kd.R_nil _ _ _ _ _, Below.refl _ _⟩
  | some a =>
    clear hC
    go_enter Try.func35, Try.ntmps35
    go_wp2_with (first | ((with_reducible refine gate_builtin (b := .append) (xs := #[.tmp 5, .tmp 6]) rfl ?_); at_builtin; refine Kd.R_append_rows (Kd.int .u8) (w0 := w) w.heap.size rfl (.tmp 5) (.tmp 6) 22 5 (.int .u8 0) 1 rfl Try.underlying22 infoU8 rfl (by decide) (by omega) (.slice (some ⟨w.heap.size, 0, none⟩) 0 0) ([] : List Int) l _ _ _ (fun _ => True) (fun _ => False) rfl rfl ?aO ?aR (fun _ _ h => h) (fun _ h => h.elim) ?aF ?aB ?aS ?aL ?_; (case aR => exact Kd.C_alloc HC.out _); (case aB => exact (Below.refl _ _).alloc (Nat.le_refl _) _); (case aF => exact (fun _ _ => trivial)); (case aO => exact R_lit0 kU8 5 w); (case aS => simp); (case aL => (simp only [List.length_nil]; omega)); (intro v1 w1 ho hb1 hg hat; rw [List.nil_append] at ho; have HO := Aside0.mk ho; have HW := Aside0.mk hb1; clear ho hb1 hg hat)))
    go_ret
    exact ⟨_, rfl, HO.out, HW.out⟩

set_option maxHeartbeats 2000000 in
theorem put_calls (v : Value) (S : Nat → Prop) (b : List Int) (i : Int) (A : Option Addr) (cap : Nat) (c : List Int) (w : World) (hb : Buf .u8 5 w S v b) (hC : kU8.C w A c.length c) (hA : ∀ a, A = some a → ¬ S a.block ∧ a.block < w.heap.size) (h0 : 0 ≤ i) (h1 : i + c.length ≤ 16777216) (h2 : b.length ≤ 16777216) (hc0 : 0 < c.length) :
    Calls Try.prog 36 #[v, .agg #[.int .i64 i, .slice A c.length cap]] w fun e w' => ∃ v', e = .returned v' ∧ Buf .u8 5 w' (fun k => S k ∨ w.heap.size ≤ k) v' (laid b i.toNat c) ∧ Keep S w w' := by
  obtain ⟨W, hW⟩ : ∃ W, W = w.alloc (.cells #[.int .i64 i, .slice A c.length cap] 75) := ⟨_, rfl⟩
  have hws : W.heap.size = w.heap.size + 1 := by rw [hW]; exact World.size_alloc _ _
  have hwk : Below w.heap.size w W := by rw [hW]; exact (Below.refl _ _).alloc (Nat.le_refl _) _
  have hwn : W.heap[w.heap.size]? = some (.cells #[.int .i64 i, .slice A c.length cap] 75 (0, 0)) := by rw [hW]; exact heap_alloc_new _ _
  have HB0 := Aside0.mk (show Buf .u8 5 W (fun k => S k ∧ k < w.heap.size ∨ w.heap.size < k) v b from (hb.mono (fun k hk hl => .inl ⟨hk, hl⟩)).below hwk)
  have HC := Aside0.mk hC
  have HA := Aside0.mk hA
  have HK0 := Aside0.mk (Keep.of_below (S := S) hwk)
  clear hb hC hA
  have hcl := C_some HC.out hc0
  obtain ⟨ad, rfl⟩ := hcl
  go_enter Try.func36, Try.ntmps36
  go_wp2_with fail
  rw [← hW]
  clear hwk hW
  have HN := Aside0.mk hwn
  clear hwn
  go_loopw [0] (fun vb wr => ∃ (n : Nat) (xs : List Int), xs.length = b.length + n ∧ (n = 0 ∨ b.length + n ≤ i.toNat + c.length) ∧ Aside0 (xs = b ++ List.replicate n 0) ∧ Aside0 (Buf .u8 5 wr (fun k => S k ∧ k < w.heap.size ∨ w.heap.size < k) vb xs) ∧ Aside0 (Keep S w wr) ∧ Aside0 (W.heap.size ≤ wr.heap.size) ∧
      Aside0 (wr.heap[w.heap.size]? = some (.cells #[.int .i64 i, .slice (some ad) c.length cap] 75 (0, 0)))) (fun vb _ => i.toNat + c.length - vlen vb)
  case atStart => exact ⟨0, b, rfl, .inl rfl, ⟨by simp⟩, HB0, HK0, ⟨Nat.le_refl _⟩, HN⟩
  case round =>
    clear HB0 HK0 HN
    obtain ⟨n, xs, hxl, hn, HX, HB, HK, HS, HN⟩ := hrel
    obtain ⟨A1, c1, rfl, hlc1, hC1, hA1⟩ := HB.out.reads
    have HC1 := Aside0.mk hC1
    have HA1 := Aside0.mk hA1
    have hc30 : wr.cell? ⟨w.heap.size, 0, none⟩ = some (.int .i64 i) := by simp [World.cell?, HN.out]
    have hc31 : wr.cell? ⟨w.heap.size, 1, none⟩ = some (.slice (some ad) c.length cap) := by simp [World.cell?, HN.out]
    clear hC1 hA1
    by_cases hlt : (xs.length : Int) < i + c.length
    · go_wp2_with (first | ((with_reducible refine gate_builtin (b := .append) (xs := #[.tmp 14, .tmp 15]) rfl ?_); at_builtin; refine Buf.append rfl (.tmp 14) (.tmp 15) 22 5 1 rfl Try.underlying22 infoU8 (by decide) (.slice A1 xs.length c1) xs 0 rfl rfl HB.out (by omega) ?_; intro v1 w1 hb1 hg1; have HB1 := Aside0.mk hb1; have HG1 := Aside0.mk hg1; clear hb1 hg1))
      go_roundw
      case rel =>
        have hz := HG1.out.size
        have hk := grown_keep (S := fun k => S k ∧ k < w.heap.size ∨ w.heap.size < k) HG1.out (fun k e => (HB.out.own k e).1)
        refine ⟨n + 1, xs ++ [0], by simp; omega, .inr (by omega), ⟨by rw [HX.out, List.append_assoc, List.replicate_succ']⟩, ⟨HB1.out.mono (fun k hk _ => hk.elim id (fun h => .inr (by have := HS.out; omega)))⟩, ⟨HK.out.then hk (fun k hl h => h.elim (fun h => h.1) (fun h => by omega))⟩, ⟨by have := HS.out; omega⟩, ⟨(hk.block _ (by have := HS.out; omega) (by omega)).trans HN.out⟩⟩
      case measure =>
        obtain ⟨A2, c2, rfl, -, -, -⟩ := HB1.out.reads
        simp [vlen]
        omega
    · obtain ⟨g, rfl, hgS, hgl⟩ := HB.out.head (by omega)
      obtain ⟨i5, hi5, -, hi5s, -⟩ := info_ex infoU8
      have hrun := slice_tail 22 5 .i64 Try.underlying22 hi5 hi5s g xs.length c1 i h0 (by omega) hlc1
      have hCr : kU8.C wr (some ad) c.length c := C_blk HC.out (fun a e => HK.out.block a.block (HA.out a e).2 (HA.out a e).1)
      obtain ⟨w2, hr2, hb2, hk2, hs2⟩ := Buf.run_copy 22 22 3 5 Try.underlying22 (by rw [hi5]; simp [hi5s]) (HB.out.step (w' := wr.drew) (fun _ _ _ => rfl)) i.toNat (xs.length - i.toNat) (c1 - i.toNat) (by omega) (Kd.C_drew hCr) (c := cap) (by omega) hc0
      have HB2 := Aside0.mk hb2
      have HK2 := Aside0.mk hk2
      have HR2 := Aside0.mk hr2
      have hF : ∀ W, Keep (· = g) wr W → W.cell? ⟨w.heap.size, 0, none⟩ = some (.int .i64 i) ∧ W.cell? ⟨w.heap.size, 1, none⟩ = some (.slice (some ad) c.length cap) := fun W hW => by
        have h := (hW.block w.heap.size (by have := HS.out; omega) (by omega)).trans HN.out
        exact ⟨by simp [World.cell?, h], by simp [World.cell?, h]⟩
      have HF := Aside0.mk hF
      have HCUR := Aside0.mk (Keep.drew (Keep.refl (· = g) wr))
      have hxb : xs.length ≤ 33554432 := by omega
      have hge : i.toNat + c.length ≤ xs.length := by omega
      have HXL := Aside0.mk (And.intro hxl hn)
      clear hb2 hk2 hr2 hCr hF hi5 hi5s hgS hxl hn
      go_wp2_with fail
      refine rk_start ((· = g)) (by kernel_rfl) (n := 7) (l := #[false, false, false, false, false, false, false]) (by kernel_rfl) (by kernel_rfl) ?_
      refine rk_take (fuel := 6) 0 rfl (by kernel_rfl) (listed' := #[true, false, false, false, false, false, false]) (by kernel_rfl) (fun _ _ _ h => h) (by kernel_rfl) (fun w' hR => by obtain ⟨x0, x1⟩ := HF.out w' (HCUR.out.trans hR); go_simp; first | done | with_reducible rfl) rfl ?_
      try simp only [Act.put, List.setIfInBounds_toArray, List.set_cons_zero, List.set_cons_succ]
      refine rk_take (fuel := 5) 1 rfl (by kernel_rfl) (listed' := #[true, true, false, false, false, false, false]) (by kernel_rfl) (fun _ _ _ h => h) (by kernel_rfl) (fun w' hR => by obtain ⟨x0, x1⟩ := HF.out w' (HCUR.out.trans hR); go_simp; first | done | with_reducible rfl) rfl ?_
      try simp only [Act.put, List.setIfInBounds_toArray, List.set_cons_zero, List.set_cons_succ]
      refine rk_take (fuel := 4) 2 rfl (by kernel_rfl) (listed' := #[true, true, true, false, false, false, false]) (by kernel_rfl) (fun _ _ _ h => h) (by kernel_rfl) (fun w' hR => by obtain ⟨x0, x1⟩ := HF.out w' (HCUR.out.trans hR); go_simp; first | done | with_reducible rfl) rfl ?_
      try simp only [Act.put, List.setIfInBounds_toArray, List.set_cons_zero, List.set_cons_succ]
      refine rk_take (fuel := 3) 3 rfl (by kernel_rfl) (listed' := #[true, true, true, true, false, false, false]) (by kernel_rfl) (fun _ _ _ h => h) (by kernel_rfl) (fun w' hR => by obtain ⟨x0, x1⟩ := HF.out w' (HCUR.out.trans hR); go_simp; first | done | with_reducible rfl) rfl ?_
      try simp only [Act.put, List.setIfInBounds_toArray, List.set_cons_zero, List.set_cons_succ]
      refine rk_take (fuel := 2) 4 rfl (by kernel_rfl) (listed' := #[true, true, true, true, true, false, false]) (by kernel_rfl) (fun _ _ _ h => h) (by kernel_rfl) (fun w' hR => by obtain ⟨x0, x1⟩ := HF.out w' (HCUR.out.trans hR); go_simp; first | done | with_reducible rfl) rfl ?_
      try simp only [Act.put, List.setIfInBounds_toArray, List.set_cons_zero, List.set_cons_succ]
      refine rk_take (fuel := 1) 5 rfl (by kernel_rfl) (listed' := #[true, true, true, true, true, true, false]) (by kernel_rfl) (fun _ _ _ h => h) (by kernel_rfl) (fun w' hR => by obtain ⟨x0, x1⟩ := HF.out w' (HCUR.out.trans hR); go_simp; first | done | with_reducible rfl) rfl ?_
      try simp only [Act.put, List.setIfInBounds_toArray, List.set_cons_zero, List.set_cons_succ]
      refine rk_step (fuel := 0) 6 rfl (by kernel_rfl) (listed' := #[true, true, true, true, true, true, true]) (by kernel_rfl) (by kernel_rfl) (fun K' hK => ?_)
      (refine wp_copy (.tmp 20) (.tmp 22) 22 22 rfl _ _ _ rfl rfl HR2.out ?_)
      refine hK.out _ _ (HK2.out) ?_
      clear hK K'
      try simp only [Act.put, List.setIfInBounds_toArray, List.set_cons_zero, List.set_cons_succ]
      refine rk_done (by kernel_rfl) ?_
      go_wp2
      go_ret
      have hlaid : laid b i.toNat c = xs.take i.toNat ++ c ++ xs.drop (i.toNat + c.length) := by
        have hp : padded b (i.toNat + c.length) = xs := by
          obtain ⟨h3, h4⟩ := HXL.out
          rw [HX.out, padded]
          congr 2
          omega
        rw [laid, hp]
      refine ⟨_, rfl, ?_, ?_⟩
      · rw [hlaid]
        exact HB2.out.mono (fun k hk _ => hk.elim (fun h => .inl h.1) (fun h => .inr (by omega)))
      · exact HK.out.drew.then HK2.out (fun k hl e => by
          subst e
          rcases (HA1.out _ rfl).1 with h | h
          · exact h.1
          · simp only at h; omega)
set_option maxRecDepth 100000 in
/-- Of no bytes. -/
theorem put0_calls (v : Value) (S : Nat → Prop) (b : List Int) (i : Int) (A : Option Addr) (cap : Nat) (w : World) (hb : Buf .u8 5 w S v b) (h0 : 0 ≤ i) (h1 : i ≤ b.length) (h2 : b.length ≤ 16777216) :
    Calls Try.prog 36 #[v, .agg #[.int .i64 i, .slice A 0 cap]] w fun e w' => ∃ v', e = .returned v' ∧ Buf .u8 5 w' (fun k => S k ∨ w.heap.size ≤ k) v' b ∧ Keep S w w' := by
  have HB0 := Aside0.mk hb
  obtain ⟨A1, c1, rfl, hlc1, -, -⟩ := hb.reads
  clear hb
  obtain ⟨i5, hi5, -, hi5s, -⟩ := info_ex infoU8
  obtain ⟨A2, hrun, -, -, hl2⟩ := sl_from kU8 22 5 .i64 Try.underlying22 hi5 A1 c1 b hi5s i h0 h1 hlc1
  have hcp := fun W : World => run_copy_none (P := Try.prog) W 22 22 3 5 A2 A (b.drop i.toNat).length (c1 - i.toNat) 0 cap Try.underlying22 (by rw [hi5]; simp [hi5s]) (Nat.zero_min _)
  generalize (b.drop i.toNat).length = nd at *
  generalize (c1 - i.toNat) = cd at *
  have HCP := Aside0.mk hcp
  have d0 : decide ((b.length : Int) < i) = false := by simp; omega
  clear hi5 hi5s hcp hl2
  go_enter Try.func36, Try.ntmps36
  obtain ⟨W, hW⟩ : ∃ W, W = w.alloc (.cells #[.int .i64 i, .slice A 0 cap] 75) := ⟨_, rfl⟩
  have hwk : Below w.heap.size w W := by rw [hW]; exact (Below.refl _ _).alloc (Nat.le_refl _) _
  have hws : w.heap.size < W.heap.size := by rw [hW, World.size_alloc]; omega
  have hwn : W.heap[w.heap.size]? = some (.cells #[.int .i64 i, .slice A 0 cap] 75 (0, 0)) := by rw [hW]; exact heap_alloc_new _ _
  go_wp2_with fail
  rw [← hW]
  have HF := Aside0.mk (show ∀ W', Keep (fun _ => False) W W' → W'.cell? ⟨w.heap.size, 0, none⟩ = some (.int .i64 i) ∧ W'.cell? ⟨w.heap.size, 1, none⟩ = some (.slice A 0 cap) from fun W' hW' => by
    have h := (hW'.block w.heap.size hws (fun h => h)).trans hwn
    exact ⟨by simp [World.cell?, h], by simp [World.cell?, h]⟩)
  have HWK := Aside0.mk hwk
  clear hW hwn hwk hws
  go_loopw [0] (fun v0 wr => v0 = .slice A1 b.length c1 ∧ wr = W) (fun _ _ => 0)
  case atStart => exact ⟨rfl, rfl⟩
  case round =>
    obtain ⟨rfl, rfl⟩ := hrel
    obtain ⟨x0, x1⟩ := HF.out _ (Keep.refl _ _)
    go_wp2_with fail
    have HCUR := Aside0.mk (Keep.drew (Keep.refl (fun _ => False) wr))
    clear x0 x1
    refine rk_start (fun _ => False) (by kernel_rfl) (n := 7) (l := #[false, false, false, false, false, false, false]) (by kernel_rfl) (by kernel_rfl) ?_
    refine rk_take (fuel := 6) 0 rfl (by kernel_rfl) (listed' := #[true, false, false, false, false, false, false]) (by kernel_rfl) (fun _ _ _ h => h) (by kernel_rfl) (fun w' hR => by obtain ⟨x0, x1⟩ := HF.out w' (HCUR.out.trans hR); go_simp; first | done | with_reducible rfl) rfl ?_
    try simp only [Act.put, List.setIfInBounds_toArray, List.set_cons_zero, List.set_cons_succ]
    refine rk_take (fuel := 5) 1 rfl (by kernel_rfl) (listed' := #[true, true, false, false, false, false, false]) (by kernel_rfl) (fun _ _ _ h => h) (by kernel_rfl) (fun w' hR => by obtain ⟨x0, x1⟩ := HF.out w' (HCUR.out.trans hR); go_simp; first | done | with_reducible rfl) rfl ?_
    try simp only [Act.put, List.setIfInBounds_toArray, List.set_cons_zero, List.set_cons_succ]
    refine rk_take (fuel := 4) 2 rfl (by kernel_rfl) (listed' := #[true, true, true, false, false, false, false]) (by kernel_rfl) (fun _ _ _ h => h) (by kernel_rfl) (fun w' hR => by obtain ⟨x0, x1⟩ := HF.out w' (HCUR.out.trans hR); go_simp; first | done | with_reducible rfl) rfl ?_
    try simp only [Act.put, List.setIfInBounds_toArray, List.set_cons_zero, List.set_cons_succ]
    refine rk_take (fuel := 3) 3 rfl (by kernel_rfl) (listed' := #[true, true, true, true, false, false, false]) (by kernel_rfl) (fun _ _ _ h => h) (by kernel_rfl) (fun w' hR => by obtain ⟨x0, x1⟩ := HF.out w' (HCUR.out.trans hR); go_simp; first | done | with_reducible rfl) rfl ?_
    try simp only [Act.put, List.setIfInBounds_toArray, List.set_cons_zero, List.set_cons_succ]
    refine rk_take (fuel := 2) 4 rfl (by kernel_rfl) (listed' := #[true, true, true, true, true, false, false]) (by kernel_rfl) (fun _ _ _ h => h) (by kernel_rfl) (fun w' hR => by obtain ⟨x0, x1⟩ := HF.out w' (HCUR.out.trans hR); go_simp; first | done | with_reducible rfl) rfl ?_
    try simp only [Act.put, List.setIfInBounds_toArray, List.set_cons_zero, List.set_cons_succ]
    refine rk_take (fuel := 1) 5 rfl (by kernel_rfl) (listed' := #[true, true, true, true, true, true, false]) (by kernel_rfl) (fun _ _ _ h => h) (by kernel_rfl) (fun w' hR => by obtain ⟨x0, x1⟩ := HF.out w' (HCUR.out.trans hR); go_simp; first | done | with_reducible rfl) rfl ?_
    try simp only [Act.put, List.setIfInBounds_toArray, List.set_cons_zero, List.set_cons_succ]
    refine rk_step (fuel := 0) 6 rfl (by kernel_rfl) (listed' := #[true, true, true, true, true, true, true]) (by kernel_rfl) (by kernel_rfl) (fun K' hK => ?_)
    (refine wp_copy (.tmp 20) (.tmp 22) 22 22 rfl _ _ _ rfl rfl (HCP.out _) ?_)
    refine hK.out _ _ (Keep.refl _ _) ?_
    clear hK K'
    try simp only [Act.put, List.setIfInBounds_toArray, List.set_cons_zero, List.set_cons_succ]
    refine rk_done (by kernel_rfl) ?_
    go_wp2
    go_ret
    exact ⟨_, rfl, ((HB0.out.below HWK.out).step (fun _ _ _ => rfl)).mono (fun k h _ => .inl h), (Keep.of_below HWK.out).drew⟩
/-- Of any bytes. -/
theorem put_any (v : Value) (S : Nat → Prop) (b : List Int) (i : Int) (A : Option Addr) (cap : Nat) (c : List Int) (n : Nat) (hn : c.length = n) (w : World) (hb : Buf .u8 5 w S v b) (hC : kU8.C w A c.length c) (hA : ∀ a, A = some a → ¬ S a.block ∧ a.block < w.heap.size) (h0 : 0 ≤ i) (h1 : i + c.length ≤ 16777216) (h2 : b.length ≤ 16777216) (hc0 : i ≤ b.length ∨ 0 < c.length) :
    Calls Try.prog 36 #[v, .agg #[.int .i64 i, .slice A n cap]] w fun e w' => ∃ v', e = .returned v' ∧ Buf .u8 5 w' (fun k => S k ∨ w.heap.size ≤ k) v' (laid b i.toNat c) ∧ Keep S w w' := by
  subst hn
  rcases Nat.eq_zero_or_pos c.length with h | h
  · have : c = [] := List.eq_nil_of_length_eq_zero h
    subst this
    rw [laid_nil _ _ (by simp only [List.length_nil] at hc0; omega)]
    exact put0_calls v S b i A cap w hb h0 (by simp only [List.length_nil] at hc0; omega) h2
  · exact put_calls v S b i A cap c w hb hC hA h0 h1 h2 h
end Go.Proofs.Ytmklopaleiennaa.Fc
