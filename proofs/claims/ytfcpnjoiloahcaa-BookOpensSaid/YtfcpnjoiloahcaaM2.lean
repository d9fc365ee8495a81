/- Contracts and plain facts that the statements' proofs use (part 2). -/
import Derived.Test.YtfcpnjoiloahcaaM1
import Derived.Test.YtfcpnjoiloahcaaProg
import Derived.WalkSpells
import Derived.Laws.BitsLemmas
namespace Go.Proofs.Ytfcpnjoiloahcaa.Fc
open Go.RowKit Go.Proofs.YtfcpnjoiloahcaaW.PrintWords Go.Proofs.YtfcpnjoiloahcaaW.PrintLast Go.Proofs.YtfcpnjoiloahcaaW.PrintMore Go.Proofs.Ytfcpnjoiloahcaa.B Go.Proofs.Ytfcpnjoiloahcaa.Fs Go.Proofs.Ytfcpnjoiloahcaa.R
set_option linter.unusedVariables false
set_option linter.unusedSimpArgs false
def vlen : Value → Nat
  | .slice _ n _ => n
  | _ => 0
theorem infoU8 : (Try.prog.info? 5).map (fun i => (i.zero, i.size, i.bytes)) = some (some (.int .u8 0), 1, 1) := by kernel_rfl

set_option maxRecDepth 100000 in
theorem clone_calls (A : Option Addr) (c : Nat) (l : List Int) (w : World) (hC : kU8.C w A l.length l) (hll : l.length ≤ 140737488355328) :
    Calls Try.prog 49 #[.slice A l.length c] w fun e w' => ∃ v, e = .returned v ∧ kU8.R 5 w' w.heap.size (fun _ => True) v l ∧ Below w.heap.size w w' := by
  have HC := Aside0.mk hC
  have heq := fun (A : Option Addr) (n c : Nat) (W : World) => Lib.run_eql_slice_nil (P := Try.prog) W 24 5 A n c 0 0 Try.underlying24
  cases A with
  | none =>
    have hl : l = [] := by
      rcases Nat.eq_zero_or_pos l.length with h | h
      · exact List.eq_nil_of_length_eq_zero h
      · obtain ⟨ad, e, _⟩ := hC.2.2 h; cases e
    subst hl
    clear hC
    go_enter Try.func49, Try.ntmps49
    go_wp2
    go_ret
    exact ⟨_, rfl, Kd.R_nil _ _ _ _ _, Below.refl _ _⟩
  | some a =>
    clear hC
    go_enter Try.func49, Try.ntmps49
    go_wp2_with (first | ((with_reducible refine gate_builtin (b := .append) (xs := #[.tmp 5, .tmp 6]) rfl ?_); at_builtin; refine Kd.R_append_rows (Kd.int .u8) (w0 := w) w.heap.size rfl (.tmp 5) (.tmp 6) 24 5 (.int .u8 0) 1 rfl Try.underlying24 infoU8 rfl (by decide) (by omega) (.slice (some ⟨w.heap.size, 0, none⟩) 0 0) ([] : List Int) l _ _ _ (fun _ => True) (fun _ => False) rfl rfl ?aO ?aR (fun _ _ h => h) (fun _ h => h.elim) ?aF ?aB ?aS ?aL ?_; (case aR => exact Kd.C_alloc HC.out _); (case aB => exact (Below.refl _ _).alloc (Nat.le_refl _) _); (case aF => exact (fun _ _ => trivial)); (case aO => exact R_lit0 kU8 5 w); (case aS => simp); (case aL => (simp only [List.length_nil]; omega)); (intro v1 w1 ho hb1 hg hat; rw [List.nil_append] at ho; have HO := Aside0.mk ho; have HW := Aside0.mk hb1; clear ho hb1 hg hat)))
    go_ret
    exact ⟨_, rfl, HO.out, HW.out⟩

set_option maxHeartbeats 2000000 in
theorem put_calls (v : Value) (S : Nat → Prop) (b : List Int) (i : Int) (A : Option Addr) (cap : Nat) (c : List Int) (w : World) (hb : Buf .u8 5 w S v b) (hC : kU8.C w A c.length c) (hA : ∀ a, A = some a → ¬ S a.block ∧ a.block < w.heap.size) (h0 : 0 ≤ i) (h1 : i + c.length ≤ 16777216) (h2 : b.length ≤ 16777216) (hc0 : 0 < c.length) :
    Calls Try.prog 47 #[v, .agg #[.int .i64 i, .slice A c.length cap]] w fun e w' => ∃ v', e = .returned v' ∧ Buf .u8 5 w' (fun k => S k ∨ w.heap.size ≤ k) v' (laid b i.toNat c) ∧ Keep S w w' := by
  obtain ⟨W, hW⟩ : ∃ W, W = w.alloc (.cells #[.int .i64 i, .slice A c.length cap] 98) := ⟨_, rfl⟩
  have hws : W.heap.size = w.heap.size + 1 := by rw [hW]; exact World.size_alloc _ _
  have hwk : Below w.heap.size w W := by rw [hW]; exact (Below.refl _ _).alloc (Nat.le_refl _) _
  have hwn : W.heap[w.heap.size]? = some (.cells #[.int .i64 i, .slice A c.length cap] 98 (0, 0)) := by rw [hW]; exact heap_alloc_new _ _
  have HB0 := Aside0.mk (show Buf .u8 5 W (fun k => S k ∧ k < w.heap.size ∨ w.heap.size < k) v b from (hb.mono (fun k hk hl => .inl ⟨hk, hl⟩)).below hwk)
  have HC := Aside0.mk hC
  have HA := Aside0.mk hA
  have HK0 := Aside0.mk (Keep.of_below (S := S) hwk)
  clear hb hC hA
  have hcl := C_some HC.out hc0
  obtain ⟨ad, rfl⟩ := hcl
  go_enter Try.func47, Try.ntmps47
  go_wp2_with fail
  rw [← hW]
  clear hwk hW
  have HN := Aside0.mk hwn
  clear hwn
  go_loopw [0] (fun vb wr => ∃ (n : Nat) (xs : List Int), xs.length = b.length + n ∧ (n = 0 ∨ b.length + n ≤ i.toNat + c.length) ∧ Aside0 (xs = b ++ List.replicate n 0) ∧ Aside0 (Buf .u8 5 wr (fun k => S k ∧ k < w.heap.size ∨ w.heap.size < k) vb xs) ∧ Aside0 (Keep S w wr) ∧ Aside0 (W.heap.size ≤ wr.heap.size) ∧
      Aside0 (wr.heap[w.heap.size]? = some (.cells #[.int .i64 i, .slice (some ad) c.length cap] 98 (0, 0)))) (fun vb _ => i.toNat + c.length - vlen vb)
  case atStart => exact ⟨0, b, rfl, .inl rfl, ⟨by simp⟩, HB0, HK0, ⟨Nat.le_refl _⟩, HN⟩
  case round =>
    clear HB0 HK0 HN
    obtain ⟨n, xs, hxl, hn, HX, HB, HK, HS, HN⟩ := hrel
    obtain ⟨A1, c1, rfl, hlc1, hC1, hA1⟩ := HB.out.reads
    have HC1 := Aside0.mk hC1
    have HA1 := Aside0.mk hA1
    have hc30 : wr.cell? ⟨w.heap.size, 0, none⟩ = some (.int .i64 i) := by simp [World.cell?, HN.out]
    have hc31 : wr.cell? ⟨w.heap.size, 1, none⟩ = some (.slice (some ad) c.length cap) := by simp [World.cell?, HN.out]
    clear hC1 hA1
    by_cases hlt : (xs.length : Int) < i + c.length
    · go_wp2_with (first | ((with_reducible refine gate_builtin (b := .append) (xs := #[.tmp 14, .tmp 15]) rfl ?_); at_builtin; refine Buf.append rfl (.tmp 14) (.tmp 15) 24 5 1 rfl Try.underlying24 infoU8 (by decide) (.slice A1 xs.length c1) xs 0 rfl rfl HB.out (by omega) ?_; intro v1 w1 hb1 hg1; have HB1 := Aside0.mk hb1; have HG1 := Aside0.mk hg1; clear hb1 hg1))
      go_roundw
      case rel =>
        have hz := HG1.out.size
        have hk := grown_keep (S := fun k => S k ∧ k < w.heap.size ∨ w.heap.size < k) HG1.out (fun k e => (HB.out.own k e).1)
        refine ⟨n + 1, xs ++ [0], by simp; omega, .inr (by omega), ⟨by rw [HX.out, List.append_assoc, List.replicate_succ']⟩, ⟨HB1.out.mono (fun k hk _ => hk.elim id (fun h => .inr (by have := HS.out; omega)))⟩, ⟨HK.out.then hk (fun k hl h => h.elim (fun h => h.1) (fun h => by omega))⟩, ⟨by have := HS.out; omega⟩, ⟨(hk.block _ (by have := HS.out; omega) (by omega)).trans HN.out⟩⟩
      case measure =>
        obtain ⟨A2, c2, rfl, -, -, -⟩ := HB1.out.reads
        simp [vlen]
        omega
    · obtain ⟨g, rfl, hgS, hgl⟩ := HB.out.head (by omega)
      obtain ⟨i5, hi5, -, hi5s, -⟩ := info_ex infoU8
      have hrun := slice_tail 24 5 .i64 Try.underlying24 hi5 hi5s g xs.length c1 i h0 (by omega) hlc1
      have hCr : kU8.C wr (some ad) c.length c := C_blk HC.out (fun a e => HK.out.block a.block (HA.out a e).2 (HA.out a e).1)
      obtain ⟨w2, hr2, hb2, hk2, hs2⟩ := Buf.run_copy 24 24 3 5 Try.underlying24 (by rw [hi5]; simp [hi5s]) (HB.out.step (w' := wr.drew) (fun _ _ _ => rfl)) i.toNat (xs.length - i.toNat) (c1 - i.toNat) (by omega) (Kd.C_drew hCr) (c := cap) (by omega) hc0
      have HB2 := Aside0.mk hb2
      have HK2 := Aside0.mk hk2
      have HR2 := Aside0.mk hr2
      have hF : ∀ W, Keep (· = g) wr W → W.cell? ⟨w.heap.size, 0, none⟩ = some (.int .i64 i) ∧ W.cell? ⟨w.heap.size, 1, none⟩ = some (.slice (some ad) c.length cap) := fun W hW => by
        have h := (hW.block w.heap.size (by have := HS.out; omega) (by omega)).trans HN.out
        exact ⟨by simp [World.cell?, h], by simp [World.cell?, h]⟩
      have HF := Aside0.mk hF
      have HCUR := Aside0.mk (Keep.drew (Keep.refl (· = g) wr))
      have hxb : xs.length ≤ 33554432 := by omega
      have hge : i.toNat + c.length ≤ xs.length := by omega
      have HXL := Aside0.mk (And.intro hxl hn)
      clear hb2 hk2 hr2 hCr hF hi5 hi5s hgS hxl hn
      go_wp2_with fail
      refine rk_start ((· = g)) (by kernel_rfl) (n := 7) (l := #[false, false, false, false, false, false, false]) (by kernel_rfl) (by kernel_rfl) ?_
      refine rk_take (fuel := 6) 0 rfl (by kernel_rfl) (listed' := #[true, false, false, false, false, false, false]) (by kernel_rfl) (fun _ _ _ h => h) (by kernel_rfl) (fun w' hR => by obtain ⟨x0, x1⟩ := HF.out w' (HCUR.out.trans hR); go_simp; first | done | with_reducible rfl) rfl ?_
      try simp only [Act.put, List.setIfInBounds_toArray, List.set_cons_zero, List.set_cons_succ]
      refine rk_take (fuel := 5) 1 rfl (by kernel_rfl) (listed' := #[true, true, false, false, false, false, false]) (by kernel_rfl) (fun _ _ _ h => h) (by kernel_rfl) (fun w' hR => by obtain ⟨x0, x1⟩ := HF.out w' (HCUR.out.trans hR); go_simp; first | done | with_reducible rfl) rfl ?_
      try simp only [Act.put, List.setIfInBounds_toArray, List.set_cons_zero, List.set_cons_succ]
      refine rk_take (fuel := 4) 2 rfl (by kernel_rfl) (listed' := #[true, true, true, false, false, false, false]) (by kernel_rfl) (fun _ _ _ h => h) (by kernel_rfl) (fun w' hR => by obtain ⟨x0, x1⟩ := HF.out w' (HCUR.out.trans hR); go_simp; first | done | with_reducible rfl) rfl ?_
      try simp only [Act.put, List.setIfInBounds_toArray, List.set_cons_zero, List.set_cons_succ]
      refine rk_take (fuel := 3) 3 rfl (by kernel_rfl) (listed' := #[true, true, true, true, false, false, false]) (by kernel_rfl) (fun _ _ _ h => h) (by kernel_rfl) (fun w' hR => by obtain ⟨x0, x1⟩ := HF.out w' (HCUR.out.trans hR); go_simp; first | done | with_reducible rfl) rfl ?_
      try simp only [Act.put, List.setIfInBounds_toArray, List.set_cons_zero, List.set_cons_succ]
      refine rk_take (fuel := 2) 4 rfl (by kernel_rfl) (listed' := #[true, true, true, true, true, false, false]) (by kernel_rfl) (fun _ _ _ h => h) (by kernel_rfl) (fun w' hR => by obtain ⟨x0, x1⟩ := HF.out w' (HCUR.out.trans hR); go_simp; first | done | with_reducible rfl) rfl ?_
      try simp only [Act.put, List.setIfInBounds_toArray, List.set_cons_zero, List.set_cons_succ]
      refine rk_take (fuel := 1) 5 rfl (by kernel_rfl) (listed' := #[true, true, true, true, true, true, false]) (by kernel_rfl) (fun _ _ _ h => h) (by kernel_rfl) (fun w' hR => by obtain ⟨x0, x1⟩ := HF.out w' (HCUR.out.trans hR); go_simp; first | done | with_reducible rfl) rfl ?_
      try simp only [Act.put, List.setIfInBounds_toArray, List.set_cons_zero, List.set_cons_succ]
      refine rk_step (fuel := 0) 6 rfl (by kernel_rfl) (listed' := #[true, true, true, true, true, true, true]) (by kernel_rfl) (by kernel_rfl) (fun K' hK => ?_)
      (refine wp_copy (.tmp 20) (.tmp 22) 24 24 rfl _ _ _ rfl rfl HR2.out ?_)
      refine hK.out _ _ (HK2.out) ?_
      clear hK K'
      try simp only [Act.put, List.setIfInBounds_toArray, List.set_cons_zero, List.set_cons_succ]
      refine rk_done (by kernel_rfl) ?_
      go_wp2
      go_ret
      have hlaid : laid b i.toNat c = xs.take i.toNat ++ c ++ xs.drop (i.toNat + c.length) := by
        have hp : padded b (i.toNat + c.length) = xs := by
          obtain ⟨h3, h4⟩ := HXL.out
          rw [HX.out, padded]
          congr 2
          omega
        rw [laid, hp]
      refine ⟨_, rfl, ?_, ?_⟩
      · rw [hlaid]
        exact HB2.out.mono (fun k hk _ => hk.elim (fun h => .inl h.1) (fun h => .inr (by omega)))
      · exact HK.out.drew.then HK2.out (fun k hl e => by
          subst e
          rcases (HA1.out _ rfl).1 with h | h
          · exact h.1
          · simp only at h; omega)
set_option maxRecDepth 100000 in
/-- Of no bytes. -/
theorem put0_calls (v : Value) (S : Nat → Prop) (b : List Int) (i : Int) (A : Option Addr) (cap : Nat) (w : World) (hb : Buf .u8 5 w S v b) (h0 : 0 ≤ i) (h1 : i ≤ b.length) (h2 : b.length ≤ 16777216) :
    Calls Try.prog 47 #[v, .agg #[.int .i64 i, .slice A 0 cap]] w fun e w' => ∃ v', e = .returned v' ∧ Buf .u8 5 w' (fun k => S k ∨ w.heap.size ≤ k) v' b ∧ Keep S w w' := by
  have HB0 := Aside0.mk hb
  obtain ⟨A1, c1, rfl, hlc1, -, -⟩ := hb.reads
  clear hb
  obtain ⟨i5, hi5, -, hi5s, -⟩ := info_ex infoU8
  obtain ⟨A2, hrun, -, -, hl2⟩ := sl_from kU8 24 5 .i64 Try.underlying24 hi5 A1 c1 b hi5s i h0 h1 hlc1
  have hcp := fun W : World => run_copy_none (P := Try.prog) W 24 24 3 5 A2 A (b.drop i.toNat).length (c1 - i.toNat) 0 cap Try.underlying24 (by rw [hi5]; simp [hi5s]) (Nat.zero_min _)
  generalize (b.drop i.toNat).length = nd at *
  generalize (c1 - i.toNat) = cd at *
  have HCP := Aside0.mk hcp
  have d0 : decide ((b.length : Int) < i) = false := by simp; omega
  clear hi5 hi5s hcp hl2
  go_enter Try.func47, Try.ntmps47
  obtain ⟨W, hW⟩ : ∃ W, W = w.alloc (.cells #[.int .i64 i, .slice A 0 cap] 98) := ⟨_, rfl⟩
  have hwk : Below w.heap.size w W := by rw [hW]; exact (Below.refl _ _).alloc (Nat.le_refl _) _
  have hws : w.heap.size < W.heap.size := by rw [hW, World.size_alloc]; omega
  have hwn : W.heap[w.heap.size]? = some (.cells #[.int .i64 i, .slice A 0 cap] 98 (0, 0)) := by rw [hW]; exact heap_alloc_new _ _
  go_wp2_with fail
  rw [← hW]
  have HF := Aside0.mk (show ∀ W', Keep (fun _ => False) W W' → W'.cell? ⟨w.heap.size, 0, none⟩ = some (.int .i64 i) ∧ W'.cell? ⟨w.heap.size, 1, none⟩ = some (.slice A 0 cap) from fun W' hW' => by
    have h := (hW'.block w.heap.size hws (fun h => h)).trans hwn
    exact ⟨by simp [World.cell?, h], by simp [World.cell?, h]⟩)
  have HWK := Aside0.mk hwk
  clear hW hwn hwk hws
  go_loopw [0] (fun v0 wr => v0 = .slice A1 b.length c1 ∧ wr = W) (fun _ _ => 0)
  case atStart => exact ⟨rfl, rfl⟩
  case round =>
    obtain ⟨rfl, rfl⟩ := hrel
    obtain ⟨x0, x1⟩ := HF.out _ (Keep.refl _ _)
    go_wp2_with fail
    have HCUR := Aside0.mk (Keep.drew (Keep.refl (fun _ => False) wr))
    clear x0 x1
    refine rk_start (fun _ => False) (by kernel_rfl) (n := 7) (l := #[false, false, false, false, false, false, false]) (by kernel_rfl) (by kernel_rfl) ?_
    refine rk_take (fuel := 6) 0 rfl (by kernel_rfl) (listed' := #[true, false, false, false, false, false, false]) (by kernel_rfl) (fun _ _ _ h => h) (by kernel_rfl) (fun w' hR => by obtain ⟨x0, x1⟩ := HF.out w' (HCUR.out.trans hR); go_simp; first | done | with_reducible rfl) rfl ?_
    try simp only [Act.put, List.setIfInBounds_toArray, List.set_cons_zero, List.set_cons_succ]
    refine rk_take (fuel := 5) 1 rfl (by kernel_rfl) (listed' := #[true, true, false, false, false, false, false]) (by kernel_rfl) (fun _ _ _ h => h) (by kernel_rfl) (fun w' hR => by obtain ⟨x0, x1⟩ := HF.out w' (HCUR.out.trans hR); go_simp; first | done | with_reducible rfl) rfl ?_
    try simp only [Act.put, List.setIfInBounds_toArray, List.set_cons_zero, List.set_cons_succ]
    refine rk_take (fuel := 4) 2 rfl (by kernel_rfl) (listed' := #[true, true, true, false, false, false, false]) (by kernel_rfl) (fun _ _ _ h => h) (by kernel_rfl) (fun w' hR => by obtain ⟨x0, x1⟩ := HF.out w' (HCUR.out.trans hR); go_simp; first | done | with_reducible rfl) rfl ?_
    try simp only [Act.put, List.setIfInBounds_toArray, List.set_cons_zero, List.set_cons_succ]
    refine rk_take (fuel := 3) 3 rfl (by kernel_rfl) (listed' := #[true, true, true, true, false, false, false]) (by kernel_rfl) (fun _ _ _ h => h) (by kernel_rfl) (fun w' hR => by obtain ⟨x0, x1⟩ := HF.out w' (HCUR.out.trans hR); go_simp; first | done | with_reducible rfl) rfl ?_
    try simp only [Act.put, List.setIfInBounds_toArray, List.set_cons_zero, List.set_cons_succ]
    refine rk_take (fuel := 2) 4 rfl (by kernel_rfl) (listed' := #[true, true, true, true, true, false, false]) (by kernel_rfl) (fun _ _ _ h => h) (by kernel_rfl) (fun w' hR => by obtain ⟨x0, x1⟩ := HF.out w' (HCUR.out.trans hR); go_simp; first | done | with_reducible rfl) rfl ?_
    try simp only [Act.put, List.setIfInBounds_toArray, List.set_cons_zero, List.set_cons_succ]
    refine rk_take (fuel := 1) 5 rfl (by kernel_rfl) (listed' := #[true, true, true, true, true, true, false]) (by kernel_rfl) (fun _ _ _ h => h) (by kernel_rfl) (fun w' hR => by obtain ⟨x0, x1⟩ := HF.out w' (HCUR.out.trans hR); go_simp; first | done | with_reducible rfl) rfl ?_
    try simp only [Act.put, List.setIfInBounds_toArray, List.set_cons_zero, List.set_cons_succ]
    refine rk_step (fuel := 0) 6 rfl (by kernel_rfl) (listed' := #[true, true, true, true, true, true, true]) (by kernel_rfl) (by kernel_rfl) (fun K' hK => ?_)
    (refine wp_copy (.tmp 20) (.tmp 22) 24 24 rfl _ _ _ rfl rfl (HCP.out _) ?_)
    refine hK.out _ _ (Keep.refl _ _) ?_
    clear hK K'
    try simp only [Act.put, List.setIfInBounds_toArray, List.set_cons_zero, List.set_cons_succ]
    refine rk_done (by kernel_rfl) ?_
    go_wp2
    go_ret
    exact ⟨_, rfl, ((HB0.out.below HWK.out).step (fun _ _ _ => rfl)).mono (fun k h _ => .inl h), (Keep.of_below HWK.out).drew⟩
/-- Of any bytes. -/
theorem put_any (v : Value) (S : Nat → Prop) (b : List Int) (i : Int) (A : Option Addr) (cap : Nat) (c : List Int) (n : Nat) (hn : c.length = n) (w : World) (hb : Buf .u8 5 w S v b) (hC : kU8.C w A c.length c) (hA : ∀ a, A = some a → ¬ S a.block ∧ a.block < w.heap.size) (h0 : 0 ≤ i) (h1 : i + c.length ≤ 16777216) (h2 : b.length ≤ 16777216) (hc0 : i ≤ b.length ∨ 0 < c.length) :
    Calls Try.prog 47 #[v, .agg #[.int .i64 i, .slice A n cap]] w fun e w' => ∃ v', e = .returned v' ∧ Buf .u8 5 w' (fun k => S k ∨ w.heap.size ≤ k) v' (laid b i.toNat c) ∧ Keep S w w' := by
  subst hn
  rcases Nat.eq_zero_or_pos c.length with h | h
  · have : c = [] := List.eq_nil_of_length_eq_zero h
    subst this
    rw [laid_nil _ _ (by simp only [List.length_nil] at hc0; omega)]
    exact put0_calls v S b i A cap w hb h0 (by simp only [List.length_nil] at hc0; omega) h2
  · exact put_calls v S b i A cap c w hb hC hA h0 h1 h2 h
end Go.Proofs.Ytfcpnjoiloahcaa.Fc
namespace Go.Proofs.Ytfcpnjoiloahcaa.Fw
open Go.RowKit Go.Proofs.YtfcpnjoiloahcaaW.PrintWords Go.Proofs.YtfcpnjoiloahcaaW.PrintLast Go.Proofs.YtfcpnjoiloahcaaW.PrintMore Go.Proofs.Ytfcpnjoiloahcaa.B Go.Proofs.Ytfcpnjoiloahcaa.Fs Go.Proofs.Ytfcpnjoiloahcaa.Fc
set_option linter.unusedVariables false
set_option linter.unusedSimpArgs false
/-- A write: a place, and bytes. -/
abbrev kW : Kd (Int × List Int) := Kd.pair (Kd.int .i64) (Kd.slice 5 kU8)
/-- A file (type T, its writes' type tw) at block g: its blocks are among own. -/
def Fl (T tw : Nat) (w : World) (g : Nat) (own : Nat → Prop) (room : Int) (s : List Int) (q : List (Int × List Int)) : Prop :=
  ∃ (v1 v2 : Value) (S1 S2 : Nat → Prop), w.heap[g]? = some (.cells #[.int .i64 room, v1, v2] T (0, 0)) ∧ Buf .u8 5 w S1 v1 s ∧ kW.R tw w 0 S2 v2 q ∧ (∀ k, S1 k → ¬ S2 k) ∧ (∀ k, S1 k ∨ S2 k → own k ∧ k ≠ g) ∧ own g ∧ ∀ k, own k → k < w.heap.size
section
variable {T tw : Nat} {w w' : World} {g : Nat} {own : Nat → Prop} {room : Int} {s : List Int} {q : List (Int × List Int)}
theorem Fl.move {S : Nat → Prop} (h : Fl T tw w g own room s q) (hk : Keep S w w') (hd : ∀ k, own k → ¬ S k) : Fl T tw w' g own room s q := by
  obtain ⟨v1, v2, S1, S2, hh, hb, hr, hs, ho, hg, hlt⟩ := h
  exact ⟨v1, v2, S1, S2, (hk.block g (blk_lt hh) (hd g hg)).trans hh, hb.step (fun k hk1 hl => hk.block k hl (hd k (ho k (.inl hk1)).1)), Kd.R_step hr (fun k hk1 hl => hk.block k hl (hd k (ho k (.inr hk1)).1)), hs, ho, hg, fun k hk1 => Nat.lt_of_lt_of_le (hlt k hk1) hk.size⟩
theorem Fl.below (h : Fl T tw w g own room s q) (hb : Below w.heap.size w w') : Fl T tw w' g own room s q := h.move (Keep.of_below (S := fun _ => False) hb) (fun _ _ => id)
theorem Fl.lt (h : Fl T tw w g own room s q) : g < w.heap.size ∧ own g ∧ ∀ k, own k → k < w.heap.size := by
  obtain ⟨v1, v2, S1, S2, hh, hb, hr, hs, ho, hg, hlt⟩ := h
  exact ⟨blk_lt hh, hg, hlt⟩
/-- A new one's. -/
theorem Fl.made (room : Int) (T tw : Nat) (w : World) : Fl T tw (w.alloc (.cells #[.int .i64 room, .slice none 0 0, .slice none 0 0] T)) w.heap.size (fun k => k = w.heap.size) room [] [] :=
  ⟨_, _, fun _ => False, fun _ => False, heap_alloc_new _ _, Buf.nil _ _ _ _, Kd.R_nil _ _ _ _ _, fun _ h => h.elim, fun k h => (by rcases h with h | h <;> exact h.elim), rfl, fun k h => by rw [h, World.size_alloc]; omega⟩
/-- Its two rows are turned: the one into v, the other into nil. -/
theorem Fl.two (h : Fl T tw w g own room s q) {w1 : World} {S : Nat → Prop} (hb : Below w.heap.size w w1) {v : Value} {s' : List Int} (hv : Buf .u8 5 w1 S v s') (hS : ∀ k, S k → own k ∧ k ≠ g ∨ w.heap.size ≤ k) :
    Fl T tw ((w1.setCell ⟨g, 1, none⟩ v).setCell ⟨g, 2, none⟩ (.slice none 0 0)) g (fun k => own k ∨ w.heap.size ≤ k ∧ k < w1.heap.size) room s' [] ∧ Keep own w ((w1.setCell ⟨g, 1, none⟩ v).setCell ⟨g, 2, none⟩ (.slice none 0 0)) := by
  obtain ⟨v1, v2, S1, S2, hh, hb1, hr, hs, ho, hg, hlt⟩ := h
  have hgl := blk_lt hh
  have hz := hb.size
  have hh1 := (hb.block g hgl).trans hh
  have hh2 := heap_setCell_same w1 g 1 _ T v hh1
  have hh3 := heap_setCell_same _ g 2 _ T (.slice none 0 0) hh2
  have hne : ∀ k, S k → k ≠ g := fun k hk => (hS k hk).elim (fun h => h.2) (fun h => by omega)
  refine ⟨⟨v, .slice none 0 0, fun k => S k ∧ k < w1.heap.size, fun _ => False, hh3, ?_, Kd.R_nil _ _ _ _ _, fun _ _ h => h, fun k hk => ?_, .inl hg, fun k hk => ?_⟩, ((Keep.of_below hb).setCell _ _ (fun _ => hg)).setCell _ _ (fun _ => hg)⟩
  · refine (hv.mono (fun k h h' => ⟨h, h'⟩)).step (fun k hk hl => ?_)
    rw [Below.heap_setCell _ _ _ _ (by show k ≠ g; exact hne k hk.1), Below.heap_setCell _ _ _ _ (by show k ≠ g; exact hne k hk.1)]
  · rcases hk with hk | hk
    · exact ⟨(hS k hk.1).elim (fun h => .inl h.1) (fun h => .inr ⟨h, hk.2⟩), hne k hk.1⟩
    · exact hk.elim
  · simp only [World.size_setCell]
    rcases hk with hk | hk
    · have := hlt k hk; omega
    · exact hk.2
/-- Its row of writes, at one of them. -/
theorem W_get {S2 : Nat → Prop} {A2 : Option Addr} {n c2 : Nat} (h : kW.R tw w 0 S2 (.slice A2 n c2) q) {j : Nat} {i : Int} {c : List Int} (hj : q[j]? = some (i, c)) :
    ∃ (ad : Addr) (A : Option Addr) (c' : Nat), A2 = some ad ∧ S2 ad.block ∧ ad.block < w.heap.size ∧ w.cell? (ad.add (j * 2)) = some (.int .i64 i) ∧ w.cell? ⟨(ad.add (j * 2)).block, (ad.add (j * 2)).off + 1, none⟩ = some (.slice A c.length c') ∧ c.length ≤ c' ∧ kU8.C w A c.length c ∧ ∀ a, A = some a → S2 a.block ∧ a.block < w.heap.size := by
  obtain ⟨ad, cs, rfl, h1, h2, h3, ⟨c0, c1, rfl, hk0, v, rfl, hR⟩, h4⟩ := R_get h hj
  have hk : c0 = [.int .i64 i] := hk0
  subst hk
  have hR' : kU8.R 5 w 0 (fun k => S2 k ∧ k ≠ ad.block ∧ k < w.heap.size) v c := hR
  obtain ⟨A, c', rfl, hl, hC⟩ := Kd.R_reads hR'
  have g0 := h4 0 (.int .i64 i) rfl
  have g1 := h4 1 (.slice A c.length c') rfl
  have hs : kW.sz = 2 := rfl
  rw [hs] at g0 g1
  rw [← add_add] at g1
  refine ⟨ad, A, c', rfl, h1, h2, g0, g1, hl, hC, fun a ha => ?_⟩
  have := hR'.1 a.block (by rw [ha]; rfl)
  exact ⟨this.1, this.2.2⟩
end
end Go.Proofs.Ytfcpnjoiloahcaa.Fw
namespace Go.Proofs.Ytfcpnjoiloahcaa.Fr
open Go.RowKit Go.Proofs.YtfcpnjoiloahcaaW.PrintWords Go.Proofs.YtfcpnjoiloahcaaW.PrintLast Go.Proofs.YtfcpnjoiloahcaaW.PrintMore Go.Proofs.Ytfcpnjoiloahcaa.B Go.Proofs.Ytfcpnjoiloahcaa.Fs Go.Proofs.Ytfcpnjoiloahcaa.Fc Go.Proofs.Ytfcpnjoiloahcaa.Fw Go.Proofs.Ytfcpnjoiloahcaa.R Go.Proofs.Ytfcpnjoiloahcaa.S
set_option linter.unusedVariables false
set_option linter.unusedSimpArgs false
abbrev FM := Fl 43 101
set_option maxHeartbeats 4000000 in
set_option maxRecDepth 100000 in
theorem lay_calls (A : Option Addr) (c : Nat) (b : List Int) (i : Int) (B : Option Addr) (d : Nat) (ct : List Int) (m : Nat) (hm : ct.length = m) (w : World) (hC : kU8.C w A b.length b) (hCt : kU8.C w B m ct) (h0 : 0 ≤ i) (h1 : i + m ≤ 16777216) (h2 : b.length ≤ 16777216) (hc0 : i ≤ b.length ∨ 0 < m) :
    Calls Try.prog 48 #[.slice A b.length c, .int .i64 i, .slice B m d] w fun e w' => ∃ v, e = .returned v ∧ Buf .u8 5 w' (fun k => w.heap.size ≤ k) v (laid b i.toNat ct) ∧ Below w.heap.size w w' := by
  obtain ⟨p, rfl⟩ : ∃ p : Nat, i = p := ⟨i.toNat, by omega⟩
  have HC := Aside0.mk hC
  have HCt := Aside0.mk hCt
  clear hC hCt
  go_enter Try.func48, Try.ntmps48
  go_wp2_with (first | ((with_reducible refine gate_builtin (b := .append) (xs := #[.tmp 9, .tmp 10]) rfl ?_); at_builtin; refine Kd.R_append_rows (Kd.int .u8) (w0 := w) w.heap.size rfl (.tmp 9) (.tmp 10) 24 5 (.int .u8 0) 1 rfl Try.underlying24 infoU8 rfl (by decide) (by omega) (.slice (some ⟨w.heap.size, 0, none⟩) 0 0) ([] : List Int) b _ _ _ (fun _ => True) (fun _ => False) rfl rfl ?aO ?aR (fun _ _ h => h) (fun _ h => h.elim) ?aF ?aB ?aS ?aL ?_; (case aR => exact Kd.C_alloc HC.out _); (case aB => exact (Below.refl _ _).alloc (Nat.le_refl _) _); (case aF => exact (fun _ _ => trivial)); (case aO => exact R_lit0 kU8 5 w); (case aS => simp); (case aL => (simp only [List.length_nil]; omega)); (intro v1 w1 ho hb1 hg hat; rw [List.nil_append] at ho; have HO := Aside0.mk ((Buf.of_R ho).mono (S' := fun k => w.heap.size ≤ k) (fun k hk _ => hk.2.1)); have HW := Aside0.mk hb1; clear ho hb1 hg hat)))
  go_loopw [7, 8] (fun vo vi wr => ∃ k : Nat, k ≤ m ∧ vi = .int .i64 k ∧ Aside0 (Buf .u8 5 wr (fun k => w.heap.size ≤ k) vo (layPart b p ct k)) ∧ Aside0 (Below w.heap.size w wr)) (fun _ vi _ => m - (intOf vi).toNat)
  case atStart => exact ⟨0, by omega, rfl, HO, HW⟩
  case round =>
    clear HO HW
    obtain ⟨k, hk, rfl, HO, HW⟩ := hrel
    by_cases hlt : k < m
    · have hpl := layPart_len b p ct k (by omega)
      have hpb : (layPart b p ct k).length ≤ 33554432 := by rw [hpl]; split <;> omega
      have HPL := Aside0.mk hpl
      clear hpl
      go_wp2_with fail
      go_loopw [7] (fun vo wr => ∃ (n : Nat) (xs : List Int), xs.length ≤ 33554433 ∧ (n = 0 ∨ xs.length ≤ p + k + 1) ∧ Aside0 (xs = layPart b p ct k ++ List.replicate n 0) ∧ Aside0 (Buf .u8 5 wr (fun k => w.heap.size ≤ k) vo xs) ∧ Aside0 (Below w.heap.size w wr)) (fun vo _ => p + k + 1 - vlen vo)
      case atStart => exact ⟨0, _, by omega, .inl rfl, ⟨by simp⟩, HO, HW⟩
      case round =>
        clear HO HW
        obtain ⟨n, xs, hxl, hn, HX, HO, HW⟩ := hrel
        obtain ⟨A1, c1, rfl, hlc1, -, -⟩ := HO.out.reads
        have y1 := wrI64 ((p : Int) + k) (by omega) (by omega)
        by_cases hin : xs.length ≤ p + k
        · have d1 : decide ((xs.length : Int) ≤ (p : Int) + k) = true := by simp; omega
          go_wp2_with (first | ((with_reducible refine gate_builtin (b := .append) (xs := #[.tmp 24, .tmp 25]) rfl ?_); at_builtin; refine Buf.append rfl (.tmp 24) (.tmp 25) 24 5 1 rfl Try.underlying24 infoU8 (by decide) (.slice A1 xs.length c1) xs 0 rfl rfl HO.out (by omega) ?_; intro v1 w1 hb1 hg1; have HB1 := Aside0.mk hb1; have HG1 := Aside0.mk hg1; clear hb1 hg1))
          go_roundw
          case rel =>
            have hk := grown_keep (S := fun k => w.heap.size ≤ k) HG1.out (fun k e => (HO.out.own k e).1)
            have hz := HW.out.size
            exact ⟨n + 1, xs ++ [0], by simp; omega, .inr (by simp; omega), ⟨by rw [HX.out, List.append_assoc, List.replicate_succ']⟩, ⟨HB1.out.mono (fun j hj _ => by omega)⟩, ⟨Keep.below_then HW.out hk hz (fun j hj h => by omega)⟩⟩
          case measure =>
            obtain ⟨A2, c2, rfl, -, -, -⟩ := HB1.out.reads
            simp [vlen]
            omega
        · have d1 : decide ((xs.length : Int) ≤ (p : Int) + k) = false := by simp; omega
          obtain ⟨g, rfl, hgS, hgl⟩ := HO.out.head (by omega)
          obtain ⟨x, hx⟩ : ∃ x, ct[k]? = some x := ⟨_, List.getElem?_eq_getElem (by omega)⟩
          obtain ⟨bd, rfl⟩ := C_some HCt.out (by omega)
          have hcx : wr.cell? (bd.add k) = some (.int .u8 x) := by
            have h := Kd.C_below HCt.out HW.out
            rw [← hm] at h
            exact C_cell h hx
          obtain ⟨x0, -, hcy, hfy⟩ := HO.out.at (j := p + k) (by omega)
          have hset := HO.out.set (p + k) (by omega) x
          have hxs : xs.set (p + k) x = layPart b p ct (k + 1) := by
            rw [← layPart_step b p hx, padded, HX.out]
            congr 3
            have hx2 := congrArg List.length HX.out
            simp only [List.length_append, List.length_replicate] at hx2
            rcases hn with h | h
            · subst h; omega
            · omega
          rw [hxs] at hset
          have HSET := Aside0.mk hset
          clear hset hxs hx
          have e1 : ((p : Int) + (k : Int)).toNat = p + k := by omega
          go_wp2
          go_roundw
          case rel => exact ⟨k + 1, by omega, by go_num, HSET, ⟨HW.out.setCell (by show w.heap.size ≤ g; exact hgS) _⟩⟩
          case measure => simp [intOf]; omega
    · have hke : k = m := by omega
      subst hke
      go_wp2
      go_ret
      refine ⟨_, rfl, ?_, HW.out⟩
      have hl : layPart b p ct k = laid b p ct := by
        cases k with
        | zero =>
          have : ct = [] := List.eq_nil_of_length_eq_zero hm
          subst this
          rw [laid_nil _ _ (by omega)]
          rfl
        | succ k => rw [layPart, ← hm, List.take_length]
      rw [Int.toNat_natCast, ← hl]
      exact HO.out
end Go.Proofs.Ytfcpnjoiloahcaa.Fr
namespace Go.Proofs.Ytfcpnjoiloahcaa.Fr
open Go.RowKit Go.Proofs.YtfcpnjoiloahcaaW.PrintWords Go.Proofs.YtfcpnjoiloahcaaW.PrintLast Go.Proofs.YtfcpnjoiloahcaaW.PrintMore Go.Proofs.Ytfcpnjoiloahcaa.B Go.Proofs.Ytfcpnjoiloahcaa.Fs Go.Proofs.Ytfcpnjoiloahcaa.Fc Go.Proofs.Ytfcpnjoiloahcaa.Fw Go.Proofs.Ytfcpnjoiloahcaa.R Go.Proofs.Ytfcpnjoiloahcaa.S
set_option linter.unusedVariables false
set_option linter.unusedSimpArgs false
theorem infoW : (Try.prog.info? 101).map (fun i => (i.zero, i.size, i.bytes)) = some (some (.agg #[.int .i64 0, .slice none 0 0]), 2, 32) := by kernel_rfl
section
variable {w : World} {g : Nat} {own : Nat → Prop} {room : Int} {s : List Int} {q : List (Int × List Int)}
set_option maxHeartbeats 4000000 in
set_option maxRecDepth 100000 in
theorem bytes_calls (h : FM w g own room s q) (hok : FOk room s q) :
    Calls Try.prog 27 #[.pointer (some ⟨g, 0, none⟩)] w fun e w' => ∃ v, e = .returned v ∧ Buf .u8 5 w' (fun k => w.heap.size ≤ k) v (over q s) ∧ Below w.heap.size w w' := by
  obtain ⟨v1, v2, S1, S2, hh, hb, hr, hs, ho, hg, hlt⟩ := h
  obtain ⟨A1, c1, rfl, hlc1, hC1, hA1⟩ := hb.reads
  obtain ⟨A2, c2, rfl, hlc2, hC2⟩ := Kd.R_reads hr
  have hql := hC2.2.1
  clear hC2
  have q0 : w.cell? ⟨g, 1, none⟩ = some (.slice A1 s.length c1) := by simp [World.cell?, hh]
  have HH := Aside0.mk hh
  have HR := Aside0.mk hr
  have HOK := Aside0.mk hok
  have HC1 := Aside0.mk hC1
  have hsl : s.length ≤ 4194304 := by have := hok.s0; have := hok.r1; omega
  have HS2 := Aside0.mk (show ∀ k, S2 k → k < w.heap.size from fun k hk => hlt k (ho k (.inr hk)).1)
  clear hh hb hr hok hs ho hg hlt hA1 hC1
  go_enter Try.func27, Try.ntmps27
  have q0' : (w.alloc (.cells #[] 5)).cell? ⟨g, 1, none⟩ = some (.slice A1 s.length c1) := by simp [World.cell?, (Below.heap_alloc w (.cells #[] 5) g (blk_lt HH.out)).trans HH.out]
  go_wp2_with (first | ((with_reducible refine gate_builtin (b := .append) (xs := #[.tmp 5, .tmp 9]) rfl ?_); at_builtin; refine Kd.R_append_rows (Kd.int .u8) (w0 := w) w.heap.size rfl (.tmp 5) (.tmp 9) 24 5 (.int .u8 0) 1 rfl Try.underlying24 infoU8 rfl (by decide) (by omega) (.slice (some ⟨w.heap.size, 0, none⟩) 0 0) ([] : List Int) s _ _ _ (fun _ => True) (fun _ => False) rfl rfl ?aO ?aR (fun _ _ h => h) (fun _ h => h.elim) ?aF ?aB ?aS ?aL ?_; (case aR => exact Kd.C_alloc HC1.out _); (case aB => exact (Below.refl _ _).alloc (Nat.le_refl _) _); (case aF => exact (fun _ _ => trivial)); (case aO => exact R_lit0 kU8 5 w); (case aS => simp); (case aL => (simp only [List.length_nil]; omega)); (intro v1 w1 ho hb1 hg hat; rw [List.nil_append] at ho; have HU1 := Aside0.mk ((Buf.of_R ho).mono (S' := fun k => w.heap.size ≤ k) (fun k hk _ => hk.2.1)); have HB1 := Aside0.mk hb1; clear ho hb1 hg hat)))
  clear q0 q0'
  go_loopw [3, 4] (fun vo vi wr => ∃ k : Nat, k ≤ q.length ∧ vi = .int .i64 k ∧ Aside0 (Buf .u8 5 wr (fun k => w.heap.size ≤ k) vo (over (q.take k) s)) ∧ Aside0 (Below w.heap.size w wr)) (fun _ vi _ => q.length - (intOf vi).toNat)
  case atStart => exact ⟨0, by omega, rfl, HU1, HB1⟩
  case round =>
    clear HB1 HU1
    obtain ⟨k, hk, rfl, HU, HB⟩ := hrel
    have hgw : wr.heap[g]? = some (.cells #[.int .i64 room, .slice A1 s.length c1, .slice A2 q.length c2] 43 (0, 0)) := (HB.out.block g (blk_lt HH.out)).trans HH.out
    have q1 : wr.cell? ⟨g, 2, none⟩ = some (.slice A2 q.length c2) := by simp [World.cell?, hgw]
    have HGW := Aside0.mk hgw
    clear hgw
    by_cases hlt : k < q.length
    · obtain ⟨⟨i, c⟩, hp⟩ : ∃ p, q[k]? = some p := ⟨_, List.getElem?_eq_getElem hlt⟩
      obtain ⟨ad, A, c', rfl, hs2, hadl, q2, q3, hcc, hCc, hAc⟩ := W_get (Kd.R_below HR.out HB.out) hp
      have hpt := HOK.out.part k
      obtain ⟨hi0, hi1, hi2, hby⟩ := HOK.out.ok.get hp
      simp only at hi0 hi1 hi2 hby
      have hr1 := HOK.out.r1
      have hbnd : i + c.length ≤ 16777216 := by omega
      have hbn2 : (over (q.take k) s).length ≤ 16777216 := by omega
      have HT := Aside0.mk (over_take (b := s) hp)
      have HCc := Aside0.mk hCc
      clear hCc hAc hby hpt hi2 hr1 hs2 hadl
      obtain ⟨A3, c3, rfl, hlc3, hC3, -⟩ := HU.out.reads
      have HC3 := Aside0.mk hC3
      clear hC3
      have HF := Aside0.mk (show ∀ W, Keep (fun _ => False) wr.drew W → W.cell? ⟨g, 2, none⟩ = some (.slice (some ad) q.length c2) ∧ W.cell? (ad.add (k * 2)) = some (.int .i64 i) ∧ W.cell? ⟨(ad.add (k * 2)).block, (ad.add (k * 2)).off + 1, none⟩ = some (.slice A c.length c') from fun W hW => by
        have hbl := hW.below (N := wr.heap.size) (Nat.le_refl _) (fun _ _ h => h)
        have h := (hbl.block g (blk_lt HGW.out)).trans HGW.out
        exact ⟨by simp [World.cell?, h], (World.cell?_of_block (hbl.block _ (World.block_lt_of_cell? wr _ q2))).trans q2, (World.cell?_of_block (hbl.block _ (World.block_lt_of_cell? wr _ q3))).trans q3⟩)
      have HCUR := Aside0.mk (Keep.refl (fun _ => False) wr.drew)
      go_wp2_with fail
      clear q1 q2 q3
      refine rk_start (fun _ => False) (by kernel_rfl) (n := 19) (l := #[false, false, false, false, false, false, false, false, false, false, false, false, false, false, false, false, false, false, false]) (by kernel_rfl) (by kernel_rfl) ?_
      refine rk_take (fuel := 18) 0 rfl (by kernel_rfl) (listed' := #[true, false, false, false, false, false, false, false, false, false, false, false, false, false, false, false, false, false, false]) (by kernel_rfl) (fun _ _ _ h => h) (by kernel_rfl) (fun w' hR => by obtain ⟨x0, x1, x2⟩ := HF.out w' (HCUR.out.trans hR); go_simp; first | done | with_reducible rfl) rfl ?_
      try simp only [Act.put, List.setIfInBounds_toArray, List.set_cons_zero, List.set_cons_succ]
      refine rk_take (fuel := 17) 1 rfl (by kernel_rfl) (listed' := #[true, true, false, false, false, false, false, false, false, false, false, false, false, false, false, false, false, false, false]) (by kernel_rfl) (fun _ _ _ h => h) (by kernel_rfl) (fun w' hR => by obtain ⟨x0, x1, x2⟩ := HF.out w' (HCUR.out.trans hR); go_simp; first | done | with_reducible rfl) rfl ?_
      try simp only [Act.put, List.setIfInBounds_toArray, List.set_cons_zero, List.set_cons_succ]
      refine rk_take (fuel := 16) 2 rfl (by kernel_rfl) (listed' := #[true, true, true, false, false, false, false, false, false, false, false, false, false, false, false, false, false, false, false]) (by kernel_rfl) (fun _ _ _ h => h) (by kernel_rfl) (fun w' hR => by obtain ⟨x0, x1, x2⟩ := HF.out w' (HCUR.out.trans hR); go_simp; first | done | with_reducible rfl) rfl ?_
      try simp only [Act.put, List.setIfInBounds_toArray, List.set_cons_zero, List.set_cons_succ]
      refine rk_take (fuel := 15) 3 rfl (by kernel_rfl) (listed' := #[true, true, true, true, false, false, false, false, false, false, false, false, false, false, false, false, false, false, false]) (by kernel_rfl) (fun _ _ _ h => h) (by kernel_rfl) (fun w' hR => by obtain ⟨x0, x1, x2⟩ := HF.out w' (HCUR.out.trans hR); go_simp; first | done | with_reducible rfl) rfl ?_
      try simp only [Act.put, List.setIfInBounds_toArray, List.set_cons_zero, List.set_cons_succ]
      refine rk_take (fuel := 14) 4 rfl (by kernel_rfl) (listed' := #[true, true, true, true, true, false, false, false, false, false, false, false, false, false, false, false, false, false, false]) (by kernel_rfl) (fun _ _ _ h => h) (by kernel_rfl) (fun w' hR => by obtain ⟨x0, x1, x2⟩ := HF.out w' (HCUR.out.trans hR); go_simp; first | done | with_reducible rfl) rfl ?_
      try simp only [Act.put, List.setIfInBounds_toArray, List.set_cons_zero, List.set_cons_succ]
      refine rk_take (fuel := 13) 5 rfl (by kernel_rfl) (listed' := #[true, true, true, true, true, true, false, false, false, false, false, false, false, false, false, false, false, false, false]) (by kernel_rfl) (fun _ _ _ h => h) (by kernel_rfl) (fun w' hR => by obtain ⟨x0, x1, x2⟩ := HF.out w' (HCUR.out.trans hR); go_simp; first | done | with_reducible rfl) rfl ?_
      try simp only [Act.put, List.setIfInBounds_toArray, List.set_cons_zero, List.set_cons_succ]
      refine rk_take (fuel := 12) 6 rfl (by kernel_rfl) (listed' := #[true, true, true, true, true, true, true, false, false, false, false, false, false, false, false, false, false, false, false]) (by kernel_rfl) (fun _ _ _ h => h) (by kernel_rfl) (fun w' hR => by obtain ⟨x0, x1, x2⟩ := HF.out w' (HCUR.out.trans hR); go_simp; first | done | with_reducible rfl) rfl ?_
      try simp only [Act.put, List.setIfInBounds_toArray, List.set_cons_zero, List.set_cons_succ]
      refine rk_take (fuel := 11) 7 rfl (by kernel_rfl) (listed' := #[true, true, true, true, true, true, true, true, false, false, false, false, false, false, false, false, false, false, false]) (by kernel_rfl) (fun _ _ _ h => h) (by kernel_rfl) (fun w' hR => by obtain ⟨x0, x1, x2⟩ := HF.out w' (HCUR.out.trans hR); go_simp; first | done | with_reducible rfl) rfl ?_
      try simp only [Act.put, List.setIfInBounds_toArray, List.set_cons_zero, List.set_cons_succ]
      refine rk_take (fuel := 10) 8 rfl (by kernel_rfl) (listed' := #[true, true, true, true, true, true, true, true, true, false, false, false, false, false, false, false, false, false, false]) (by kernel_rfl) (fun _ _ _ h => h) (by kernel_rfl) (fun w' hR => by obtain ⟨x0, x1, x2⟩ := HF.out w' (HCUR.out.trans hR); go_simp; first | done | with_reducible rfl) rfl ?_
      try simp only [Act.put, List.setIfInBounds_toArray, List.set_cons_zero, List.set_cons_succ]
      refine rk_take (fuel := 9) 9 rfl (by kernel_rfl) (listed' := #[true, true, true, true, true, true, true, true, true, true, false, false, false, false, false, false, false, false, false]) (by kernel_rfl) (fun _ _ _ h => h) (by kernel_rfl) (fun w' hR => by obtain ⟨x0, x1, x2⟩ := HF.out w' (HCUR.out.trans hR); go_simp; first | done | with_reducible rfl) rfl ?_
      try simp only [Act.put, List.setIfInBounds_toArray, List.set_cons_zero, List.set_cons_succ]
      refine rk_take (fuel := 8) 10 rfl (by kernel_rfl) (listed' := #[true, true, true, true, true, true, true, true, true, true, true, false, false, false, false, false, false, false, false]) (by kernel_rfl) (fun _ _ _ h => h) (by kernel_rfl) (fun w' hR => by obtain ⟨x0, x1, x2⟩ := HF.out w' (HCUR.out.trans hR); go_simp; first | done | with_reducible rfl) rfl ?_
      try simp only [Act.put, List.setIfInBounds_toArray, List.set_cons_zero, List.set_cons_succ]
      refine rk_take (fuel := 7) 11 rfl (by kernel_rfl) (listed' := #[true, true, true, true, true, true, true, true, true, true, true, true, false, false, false, false, false, false, false]) (by kernel_rfl) (fun _ _ _ h => h) (by kernel_rfl) (fun w' hR => by obtain ⟨x0, x1, x2⟩ := HF.out w' (HCUR.out.trans hR); go_simp; first | done | with_reducible rfl) rfl ?_
      try simp only [Act.put, List.setIfInBounds_toArray, List.set_cons_zero, List.set_cons_succ]
      refine rk_take (fuel := 6) 12 rfl (by kernel_rfl) (listed' := #[true, true, true, true, true, true, true, true, true, true, true, true, true, false, false, false, false, false, false]) (by kernel_rfl) (fun _ _ _ h => h) (by kernel_rfl) (fun w' hR => by obtain ⟨x0, x1, x2⟩ := HF.out w' (HCUR.out.trans hR); go_simp; first | done | with_reducible rfl) rfl ?_
      try simp only [Act.put, List.setIfInBounds_toArray, List.set_cons_zero, List.set_cons_succ]
      refine rk_take (fuel := 5) 13 rfl (by kernel_rfl) (listed' := #[true, true, true, true, true, true, true, true, true, true, true, true, true, true, false, false, false, false, false]) (by kernel_rfl) (fun _ _ _ h => h) (by kernel_rfl) (fun w' hR => by obtain ⟨x0, x1, x2⟩ := HF.out w' (HCUR.out.trans hR); go_simp; first | done | with_reducible rfl) rfl ?_
      try simp only [Act.put, List.setIfInBounds_toArray, List.set_cons_zero, List.set_cons_succ]
      refine rk_take (fuel := 4) 14 rfl (by kernel_rfl) (listed' := #[true, true, true, true, true, true, true, true, true, true, true, true, true, true, true, false, false, false, false]) (by kernel_rfl) (fun _ _ _ h => h) (by kernel_rfl) (fun w' hR => by obtain ⟨x0, x1, x2⟩ := HF.out w' (HCUR.out.trans hR); go_simp; first | done | with_reducible rfl) rfl ?_
      try simp only [Act.put, List.setIfInBounds_toArray, List.set_cons_zero, List.set_cons_succ]
      refine rk_take (fuel := 3) 15 rfl (by kernel_rfl) (listed' := #[true, true, true, true, true, true, true, true, true, true, true, true, true, true, true, true, false, false, false]) (by kernel_rfl) (fun _ _ _ h => h) (by kernel_rfl) (fun w' hR => by obtain ⟨x0, x1, x2⟩ := HF.out w' (HCUR.out.trans hR); go_simp; first | done | with_reducible rfl) rfl ?_
      try simp only [Act.put, List.setIfInBounds_toArray, List.set_cons_zero, List.set_cons_succ]
      refine rk_take (fuel := 2) 16 rfl (by kernel_rfl) (listed' := #[true, true, true, true, true, true, true, true, true, true, true, true, true, true, true, true, true, false, false]) (by kernel_rfl) (fun _ _ _ h => h) (by kernel_rfl) (fun w' hR => by obtain ⟨x0, x1, x2⟩ := HF.out w' (HCUR.out.trans hR); go_simp; first | done | with_reducible rfl) rfl ?_
      try simp only [Act.put, List.setIfInBounds_toArray, List.set_cons_zero, List.set_cons_succ]
      refine rk_step (fuel := 1) 17 rfl (by kernel_rfl) (listed' := #[true, true, true, true, true, true, true, true, true, true, true, true, true, true, true, true, true, true, false]) (by kernel_rfl) (by kernel_rfl) (fun K' hK => ?_)
      go_wp2_with (first | (go_at_call 48; refine (lay_calls A3 c3 (over (q.take k) s) i A c' c c.length rfl _ (Kd.C_drew HC3.out) (Kd.C_drew HCc.out) hi0 (by omega) hbn2 (Or.inl hi1)).mono ?_; rintro e w2 ⟨v2, rfl, hb2, hk2⟩; have HB2 := Aside0.mk hb2; have HK2 := Aside0.mk hk2; clear hb2 hk2))
      refine hK.out _ _ (Keep.of_below HK2.out) ?_
      clear hK K'
      try simp only [Act.put, List.setIfInBounds_toArray, List.set_cons_zero, List.set_cons_succ]
      refine rk_take (fuel := 0) 18 rfl (by kernel_rfl) (listed' := #[true, true, true, true, true, true, true, true, true, true, true, true, true, true, true, true, true, true, true]) (by kernel_rfl) (fun _ _ _ h => h) (by kernel_rfl) (fun w' hR => by skip; go_simp; first | done | with_reducible rfl) rfl ?_
      try simp only [Act.put, List.setIfInBounds_toArray, List.set_cons_zero, List.set_cons_succ]
      refine rk_done (by kernel_rfl) ?_
      go_wp2
      go_roundw
      case rel =>
        have hz : wr.drew.heap.size = wr.heap.size := rfl
        have hz2 := HB.out.size
        exact ⟨k + 1, by omega, by go_num, ⟨by rw [HT.out]; exact HB2.out.mono (fun j hj _ => by omega)⟩, ⟨HB.out.drew.trans (HK2.out.mono (by omega))⟩⟩
      case measure => simp [intOf]; omega
    · have hke : k = q.length := by omega
      subst hke
      go_wp2
      go_ret
      rw [List.take_length] at HU
      exact ⟨_, rfl, HU.out, HB.out⟩
theorem sync_calls (h : FM w g own room s q) (hok : FOk room s q) :
    Calls Try.prog 50 #[.pointer (some ⟨g, 0, none⟩)] w fun e w' => e = .returned (.tuple #[]) ∧ (∃ own', FM w' g own' room (over q s) [] ∧ ∀ k, own' k → own k ∨ w.heap.size ≤ k) ∧ Keep own w w' := by
  have HF := Aside0.mk h
  have HOK := Aside0.mk hok
  obtain ⟨u1, u2, -, -, hh, -⟩ := h
  clear hok
  go_enter Try.func50, Try.ntmps50
  go_wp2_with (first | (go_at_call 27; refine (bytes_calls HF.out HOK.out).mono ?_; rintro e w1 ⟨v1, rfl, hu1, hb1⟩; obtain ⟨A9, c9, rfl, -, -, -⟩ := hu1.reads; have HU1 := Aside0.mk hu1; have hh1 := (hb1.block g (blk_lt hh)).trans hh; have HB1 := Aside0.mk hb1; have hfz1 := blk_frozen hh1 1; have hfz2 := blk_frozen hh1 2; have hce1 : w1.cell? ⟨g, 1, none⟩ = some u1 := (by simp [World.cell?, hh1]); have hce2 : w1.cell? ⟨g, 2, none⟩ = some u2 := (by simp [World.cell?, hh1]); clear hu1 hb1 hh1))
  first | go_end0 | ((try simp only [Exit.inBlock, Exit.then]); refine bodyPost_ret (results_none rfl _ _ _) rfl ?_)
  obtain ⟨h1, h2⟩ := HF.out.two HB1.out HU1.out (fun k hk => .inr hk)
  exact ⟨rfl, ⟨_, h1, fun k hk => hk.imp id (fun e => e.1)⟩, h2⟩
set_option maxHeartbeats 2000000 in
set_option maxRecDepth 100000 in
theorem cut_calls (h : FM w g own room s q) (hok : FOk room s q) (n : Int) :
    Calls Try.prog 44 #[.pointer (some ⟨g, 0, none⟩), .int .i64 n] w fun e w' => e = .returned (.int .i64 (cErr (over q s).length n)) ∧
      (∃ own', FM w' g own' room (cutS s q n) (cutQ s q n) ∧ ∀ k, own' k → own k ∨ w.heap.size ≤ k) ∧ Keep own w w' := by
  have HF := Aside0.mk h
  have HOK := Aside0.mk hok
  obtain ⟨u1, u2, -, -, hh, -⟩ := h
  have hbn := hok.all.1
  have hr1 := hok.r1
  clear hok
  by_cases h0 : n < 0 ∨ ((over q s).length : Int) < n
  · have hce : cErr (over q s).length n = 2 := if_pos h0
    have HE := Aside0.mk hce
    clear hce hh
    have h0' : n < 0 ∨ 0 ≤ n ∧ ((over q s).length : Int) < n := by omega
    clear h0
    rcases h0' with h0 | ⟨h0, h1⟩
    all_goals
      go_enter Try.func44, Try.ntmps44
      go_wp2_with (first | (go_at_call 27; refine (bytes_calls HF.out HOK.out).mono ?_; rintro e w1 ⟨v1, rfl, hu1, hb1⟩; obtain ⟨A9, c9, rfl, -, -, -⟩ := hu1.reads; have HB1 := Aside0.mk hb1; clear hu1 hb1))
      go_ret
      rw [HE.out, show cutS s q n = s from if_neg (by rw [HE.out]; decide), show cutQ s q n = q from if_neg (by rw [HE.out]; decide)]
      exact ⟨rfl, ⟨own, HF.out.below HB1.out, fun k hk => .inl hk⟩, Keep.of_below HB1.out⟩
  have hce : cErr (over q s).length n = 0 := if_neg h0
  have HE := Aside0.mk hce
  clear hce
  obtain ⟨i5, hi5, -, hi5s, -⟩ := info_ex infoU8
  have hh' := hh
  have hn0 : 0 ≤ n := by omega
  have hn1 : n ≤ (over q s).length := by omega
  clear h0
  go_enter Try.func44, Try.ntmps44
  go_wp2_with (first | (go_at_call 27; refine (bytes_calls HF.out HOK.out).mono ?_; rintro e w2 ⟨v2, rfl, hu2, hb2⟩; obtain ⟨A8, c8, rfl, hlc8, -, hA8⟩ := hu2.reads; have hrun : ∀ W : World, (Instr.slice 24 (.slice A8 (over q s).length c8) none (some (.int .i64 n)) none).run Try.prog W = .ok (.slice A8 n.toNat c8) W := (fun W => cut_to (P := Try.prog) 24 5 .i64 Try.underlying24 hi5 A8 (over q s).length c8 n (by omega) (by omega) hlc8 W); have HU2 := Aside0.mk hu2; have HB2 := Aside0.mk hb2; have hh2 := (hb2.block g (blk_lt hh)).trans hh'; have hfz1 := blk_frozen hh2 1; have hfz2 := blk_frozen hh2 2; have hce1 : w2.cell? ⟨g, 1, none⟩ = some u1 := (by simp [World.cell?, hh2]); have hce2 : w2.cell? ⟨g, 2, none⟩ = some u2 := (by simp [World.cell?, hh2]); have HLC := Aside0.mk hlc8; clear hu2 hb2 hh2 hA8 hlc8))
  go_ret
  rw [HE.out, show cutS s q n = (over q s).take n.toNat from if_pos HE.out, show cutQ s q n = [] from if_pos HE.out]
  have hlc8 := HLC.out
  have hv : Buf .u8 5 w2 (fun k => w.heap.size ≤ k) (.slice A8 n.toNat c8) ((over q s).take n.toNat) := HU2.out.short rfl (by omega) (by omega) (Nat.le_refl _) (fun e => by
    subst e
    rcases HU2.out with ⟨h', h⟩ | ⟨_, _, _, h, _⟩
    · rw [h] at hn1
      injection h' with _ _ h'
      simp only [List.length_nil] at hn1
      omega
    · cases h)
  obtain ⟨h1, h2⟩ := HF.out.two HB2.out hv (fun k hk => .inr hk)
  exact ⟨rfl, ⟨_, h1, fun k hk => hk.imp id (fun e => e.1)⟩, h2⟩
set_option maxHeartbeats 4000000 in
set_option maxRecDepth 100000 in
theorem crash_calls (h : FM w g own room s q) (hok : FOk room s q) (B : Option Addr) (kc : Nat) (keep : List Int) (hK : (Kd.int .i64).C w B keep.length keep) (hkr : ∀ x ∈ keep, -9223372036854775808 ≤ x ∧ x ≤ 9223372036854775807) :
    Calls Try.prog 22 #[.pointer (some ⟨g, 0, none⟩), .slice B keep.length kc] w fun e w' => e = .returned (.tuple #[]) ∧
      (∃ own', FM w' g own' room (fallen keep 0 q s) [] ∧ ∀ k, own' k → own k ∨ w.heap.size ≤ k) ∧ Keep own w w' := by
  have HFM := Aside0.mk h
  obtain ⟨v1, v2, S1, S2, hh, hb, hr, hsep, ho, hg, hlt⟩ := h
  obtain ⟨A1, c1, rfl, hlc1, -, -⟩ := hb.reads
  obtain ⟨A2, c2, rfl, hlc2, hC2⟩ := Kd.R_reads hr
  have hql := hC2.2.1
  have hkl := hK.2.1
  have hgl := blk_lt hh
  have q0 : w.cell? ⟨g, 1, none⟩ = some (.slice A1 s.length c1) := by simp [World.cell?, hh]
  have HOK := Aside0.mk hok
  have HK := Aside0.mk hK
  have HKR := Aside0.mk hkr
  have HH := Aside0.mk hh
  have HBf := Aside0.mk (hb.mono (S' := fun k => S1 k ∨ w.heap.size ≤ k) (fun k hk _ => .inl hk))
  have HR := Aside0.mk hr
  have HO := Aside0.mk ho
  have HKP := Aside0.mk (Below.refl w.heap.size w)
  clear hok hb hr hsep ho hg hlt hh hK hkr hC2
  go_enter Try.func22, Try.ntmps22
  go_wp2_with fail
  clear q0
  go_loopw [4, 5] (fun vb vi wr => ∃ k : Nat, k ≤ q.length ∧ vi = .int .i64 k ∧ Aside0 (Buf .u8 5 wr (fun k => S1 k ∨ w.heap.size ≤ k) vb (fallen keep 0 (q.take k) s)) ∧ Aside0 (Below w.heap.size w wr)) (fun _ vi _ => q.length - (intOf vi).toNat)
  case atStart => exact ⟨0, by omega, rfl, HBf, HKP⟩
  case round =>
    clear HBf HKP
    obtain ⟨k, hk, rfl, HBf, HKP⟩ := hrel
    have hzs : w.heap.size ≤ wr.heap.size := HKP.out.size
    have hgw : wr.heap[g]? = some (.cells #[.int .i64 room, .slice A1 s.length c1, .slice A2 q.length c2] 43 (0, 0)) := (HKP.out.block g hgl).trans HH.out
    have q1 : wr.cell? ⟨g, 2, none⟩ = some (.slice A2 q.length c2) := by simp [World.cell?, hgw]
    have HGW := Aside0.mk hgw
    clear hgw
    by_cases hlt : k < q.length
    · obtain ⟨⟨i, c⟩, hp⟩ : ∃ p, q[k]? = some p := ⟨_, List.getElem?_eq_getElem hlt⟩
      obtain ⟨ad, A, c', rfl, hs2, hadl, q2, q3, hcc, hCc, hAc⟩ := W_get (Kd.R_below HR.out HKP.out) hp
      have hpt := HOK.out.crashPart keep k
      obtain ⟨hi0, hi1, hi2, hby⟩ := HOK.out.ok.get hp
      simp only at hi0 hi1 hi2 hby
      have hr1 := HOK.out.r1
      have hbnd : i + c.length ≤ 16777216 := by omega
      have hbn2 : (fallen keep 0 (q.take k) s).length ≤ 16777216 := by omega
      have HT := Aside0.mk (fallen_take (keep := keep) (b := s) hp)
      have HCc := Aside0.mk hCc
      obtain ⟨A5, c5, rfl, -, hC5, -⟩ := HBf.out.reads
      have HC5 := Aside0.mk hC5
      obtain ⟨i5, hi5, -, hi5s, -⟩ := info_ex infoU8
      have HF := Aside0.mk (show ∀ W, Keep (fun _ => False) wr.drew W → W.cell? ⟨g, 2, none⟩ = some (.slice (some ad) q.length c2) ∧ W.cell? (ad.add (k * 2)) = some (.int .i64 i) ∧ W.cell? ⟨(ad.add (k * 2)).block, (ad.add (k * 2)).off + 1, none⟩ = some (.slice A c.length c') from fun W hW => by
        have hbl := hW.below (N := wr.heap.size) (Nat.le_refl _) (fun _ _ h => h)
        have h := (hbl.block g (blk_lt HGW.out)).trans HGW.out
        exact ⟨by simp [World.cell?, h], (World.cell?_of_block (hbl.block _ (World.block_lt_of_cell? wr _ q2))).trans q2, (World.cell?_of_block (hbl.block _ (World.block_lt_of_cell? wr _ q3))).trans q3⟩)
      clear hp hCc hAc hby hpt hi2 hr1 hs2 hadl hC5
      by_cases hkk : k < keep.length
      · obtain ⟨x, hx⟩ : ∃ x, keep[k]? = some x := ⟨_, List.getElem?_eq_getElem hkk⟩
        obtain ⟨bd, rfl⟩ := C_some HK.out (by omega)
        have hxr := HKR.out x (List.mem_of_getElem? hx)
        have hcx : wr.cell? (bd.add k) = some (.int .i64 x) := C_cell (Kd.C_below HK.out HKP.out) hx
        have hkx : kept keep k c.length = (max 0 (min x c.length)).toNat := by unfold kept; rw [hx]
        rw [hkx] at HT
        clear hkx hx
        by_cases hxc : (c.length : Int) < x
        · have hkn : (max 0 (min x (c.length : Int))).toNat = c.length := by omega
          rw [hkn] at HT
          clear hkn
          have hkc : c.length ≤ c.length := Nat.le_refl _
          by_cases hk0 : 0 < c.length
          · have hrun : ∀ W : World, (Instr.slice 24 (.slice A c.length c') none (some (.int .i64 (c.length : Int))) none).run Try.prog W = .ok (.slice A c.length c') W := fun W => by simpa using cut_to (P := Try.prog) 24 5 .i64 Try.underlying24 hi5 A c.length c' ((c.length : Nat) : Int) (by omega) (by omega) hcc W
            have hCt := Kd.C_take HCc.out hkc
            have hkl : (c.take c.length).length = c.length := by rw [List.length_take]; omega
            rw [hkl] at hCt
            have HCT := Aside0.mk hCt
            have HKL := Aside0.mk hkl
            have HCUR := Aside0.mk (Keep.refl (fun _ => False) wr.drew)
            clear hCt hkl hi5 hi5s
            go_wp2_with fail
            refine rk_start (fun _ => False) (by kernel_rfl) (n := 21) (l := #[false, false, false, false, false, false, false, false, false, false, false, false, false, false, false, false, false, false, false, false, false]) (by kernel_rfl) (by kernel_rfl) ?_
            refine rk_take (fuel := 20) 0 rfl (by kernel_rfl) (listed' := #[true, false, false, false, false, false, false, false, false, false, false, false, false, false, false, false, false, false, false, false, false]) (by kernel_rfl) (fun _ _ _ h => h) (by kernel_rfl) (fun w' hR => by obtain ⟨x0, x1, x2⟩ := HF.out w' (HCUR.out.trans hR); go_simp; first | done | with_reducible rfl) rfl ?_
            try simp only [Act.put, List.setIfInBounds_toArray, List.set_cons_zero, List.set_cons_succ]
            refine rk_take (fuel := 19) 1 rfl (by kernel_rfl) (listed' := #[true, true, false, false, false, false, false, false, false, false, false, false, false, false, false, false, false, false, false, false, false]) (by kernel_rfl) (fun _ _ _ h => h) (by kernel_rfl) (fun w' hR => by obtain ⟨x0, x1, x2⟩ := HF.out w' (HCUR.out.trans hR); go_simp; first | done | with_reducible rfl) rfl ?_
            try simp only [Act.put, List.setIfInBounds_toArray, List.set_cons_zero, List.set_cons_succ]
            refine rk_take (fuel := 18) 2 rfl (by kernel_rfl) (listed' := #[true, true, true, false, false, false, false, false, false, false, false, false, false, false, false, false, false, false, false, false, false]) (by kernel_rfl) (fun _ _ _ h => h) (by kernel_rfl) (fun w' hR => by obtain ⟨x0, x1, x2⟩ := HF.out w' (HCUR.out.trans hR); go_simp; first | done | with_reducible rfl) rfl ?_
            try simp only [Act.put, List.setIfInBounds_toArray, List.set_cons_zero, List.set_cons_succ]
            refine rk_take (fuel := 17) 3 rfl (by kernel_rfl) (listed' := #[true, true, true, true, false, false, false, false, false, false, false, false, false, false, false, false, false, false, false, false, false]) (by kernel_rfl) (fun _ _ _ h => h) (by kernel_rfl) (fun w' hR => by obtain ⟨x0, x1, x2⟩ := HF.out w' (HCUR.out.trans hR); go_simp; first | done | with_reducible rfl) rfl ?_
            try simp only [Act.put, List.setIfInBounds_toArray, List.set_cons_zero, List.set_cons_succ]
            refine rk_take (fuel := 16) 4 rfl (by kernel_rfl) (listed' := #[true, true, true, true, true, false, false, false, false, false, false, false, false, false, false, false, false, false, false, false, false]) (by kernel_rfl) (fun _ _ _ h => h) (by kernel_rfl) (fun w' hR => by obtain ⟨x0, x1, x2⟩ := HF.out w' (HCUR.out.trans hR); go_simp; first | done | with_reducible rfl) rfl ?_
            try simp only [Act.put, List.setIfInBounds_toArray, List.set_cons_zero, List.set_cons_succ]
            refine rk_take (fuel := 15) 5 rfl (by kernel_rfl) (listed' := #[true, true, true, true, true, true, false, false, false, false, false, false, false, false, false, false, false, false, false, false, false]) (by kernel_rfl) (fun _ _ _ h => h) (by kernel_rfl) (fun w' hR => by obtain ⟨x0, x1, x2⟩ := HF.out w' (HCUR.out.trans hR); go_simp; first | done | with_reducible rfl) rfl ?_
            try simp only [Act.put, List.setIfInBounds_toArray, List.set_cons_zero, List.set_cons_succ]
            refine rk_take (fuel := 14) 6 rfl (by kernel_rfl) (listed' := #[true, true, true, true, true, true, true, false, false, false, false, false, false, false, false, false, false, false, false, false, false]) (by kernel_rfl) (fun _ _ _ h => h) (by kernel_rfl) (fun w' hR => by obtain ⟨x0, x1, x2⟩ := HF.out w' (HCUR.out.trans hR); go_simp; first | done | with_reducible rfl) rfl ?_
            try simp only [Act.put, List.setIfInBounds_toArray, List.set_cons_zero, List.set_cons_succ]
            refine rk_take (fuel := 13) 7 rfl (by kernel_rfl) (listed' := #[true, true, true, true, true, true, true, true, false, false, false, false, false, false, false, false, false, false, false, false, false]) (by kernel_rfl) (fun _ _ _ h => h) (by kernel_rfl) (fun w' hR => by obtain ⟨x0, x1, x2⟩ := HF.out w' (HCUR.out.trans hR); go_simp; first | done | with_reducible rfl) rfl ?_
            try simp only [Act.put, List.setIfInBounds_toArray, List.set_cons_zero, List.set_cons_succ]
            refine rk_take (fuel := 12) 8 rfl (by kernel_rfl) (listed' := #[true, true, true, true, true, true, true, true, true, false, false, false, false, false, false, false, false, false, false, false, false]) (by kernel_rfl) (fun _ _ _ h => h) (by kernel_rfl) (fun w' hR => by obtain ⟨x0, x1, x2⟩ := HF.out w' (HCUR.out.trans hR); go_simp; first | done | with_reducible rfl) rfl ?_
            try simp only [Act.put, List.setIfInBounds_toArray, List.set_cons_zero, List.set_cons_succ]
            refine rk_take (fuel := 11) 9 rfl (by kernel_rfl) (listed' := #[true, true, true, true, true, true, true, true, true, true, false, false, false, false, false, false, false, false, false, false, false]) (by kernel_rfl) (fun _ _ _ h => h) (by kernel_rfl) (fun w' hR => by obtain ⟨x0, x1, x2⟩ := HF.out w' (HCUR.out.trans hR); go_simp; first | done | with_reducible rfl) rfl ?_
            try simp only [Act.put, List.setIfInBounds_toArray, List.set_cons_zero, List.set_cons_succ]
            refine rk_take (fuel := 10) 10 rfl (by kernel_rfl) (listed' := #[true, true, true, true, true, true, true, true, true, true, true, false, false, false, false, false, false, false, false, false, false]) (by kernel_rfl) (fun _ _ _ h => h) (by kernel_rfl) (fun w' hR => by obtain ⟨x0, x1, x2⟩ := HF.out w' (HCUR.out.trans hR); go_simp; first | done | with_reducible rfl) rfl ?_
            try simp only [Act.put, List.setIfInBounds_toArray, List.set_cons_zero, List.set_cons_succ]
            refine rk_take (fuel := 9) 11 rfl (by kernel_rfl) (listed' := #[true, true, true, true, true, true, true, true, true, true, true, true, false, false, false, false, false, false, false, false, false]) (by kernel_rfl) (fun _ _ _ h => h) (by kernel_rfl) (fun w' hR => by obtain ⟨x0, x1, x2⟩ := HF.out w' (HCUR.out.trans hR); go_simp; first | done | with_reducible rfl) rfl ?_
            try simp only [Act.put, List.setIfInBounds_toArray, List.set_cons_zero, List.set_cons_succ]
            refine rk_take (fuel := 8) 12 rfl (by kernel_rfl) (listed' := #[true, true, true, true, true, true, true, true, true, true, true, true, true, false, false, false, false, false, false, false, false]) (by kernel_rfl) (fun _ _ _ h => h) (by kernel_rfl) (fun w' hR => by obtain ⟨x0, x1, x2⟩ := HF.out w' (HCUR.out.trans hR); go_simp; first | done | with_reducible rfl) rfl ?_
            try simp only [Act.put, List.setIfInBounds_toArray, List.set_cons_zero, List.set_cons_succ]
            refine rk_take (fuel := 7) 13 rfl (by kernel_rfl) (listed' := #[true, true, true, true, true, true, true, true, true, true, true, true, true, true, false, false, false, false, false, false, false]) (by kernel_rfl) (fun _ _ _ h => h) (by kernel_rfl) (fun w' hR => by obtain ⟨x0, x1, x2⟩ := HF.out w' (HCUR.out.trans hR); go_simp; first | done | with_reducible rfl) rfl ?_
            try simp only [Act.put, List.setIfInBounds_toArray, List.set_cons_zero, List.set_cons_succ]
            refine rk_take (fuel := 6) 14 rfl (by kernel_rfl) (listed' := #[true, true, true, true, true, true, true, true, true, true, true, true, true, true, true, false, false, false, false, false, false]) (by kernel_rfl) (fun _ _ _ h => h) (by kernel_rfl) (fun w' hR => by obtain ⟨x0, x1, x2⟩ := HF.out w' (HCUR.out.trans hR); go_simp; first | done | with_reducible rfl) rfl ?_
            try simp only [Act.put, List.setIfInBounds_toArray, List.set_cons_zero, List.set_cons_succ]
            refine rk_take (fuel := 5) 15 rfl (by kernel_rfl) (listed' := #[true, true, true, true, true, true, true, true, true, true, true, true, true, true, true, true, false, false, false, false, false]) (by kernel_rfl) (fun _ _ _ h => h) (by kernel_rfl) (fun w' hR => by obtain ⟨x0, x1, x2⟩ := HF.out w' (HCUR.out.trans hR); go_simp; first | done | with_reducible rfl) rfl ?_
            try simp only [Act.put, List.setIfInBounds_toArray, List.set_cons_zero, List.set_cons_succ]
            refine rk_take (fuel := 4) 16 rfl (by kernel_rfl) (listed' := #[true, true, true, true, true, true, true, true, true, true, true, true, true, true, true, true, true, false, false, false, false]) (by kernel_rfl) (fun _ _ _ h => h) (by kernel_rfl) (fun w' hR => by obtain ⟨x0, x1, x2⟩ := HF.out w' (HCUR.out.trans hR); go_simp; first | done | with_reducible rfl) rfl ?_
            try simp only [Act.put, List.setIfInBounds_toArray, List.set_cons_zero, List.set_cons_succ]
            refine rk_take (fuel := 3) 17 rfl (by kernel_rfl) (listed' := #[true, true, true, true, true, true, true, true, true, true, true, true, true, true, true, true, true, true, false, false, false]) (by kernel_rfl) (fun _ _ _ h => h) (by kernel_rfl) (fun w' hR => by obtain ⟨x0, x1, x2⟩ := HF.out w' (HCUR.out.trans hR); go_simp; first | done | with_reducible rfl) rfl ?_
            try simp only [Act.put, List.setIfInBounds_toArray, List.set_cons_zero, List.set_cons_succ]
            refine rk_take (fuel := 2) 18 rfl (by kernel_rfl) (listed' := #[true, true, true, true, true, true, true, true, true, true, true, true, true, true, true, true, true, true, true, false, false]) (by kernel_rfl) (fun _ _ _ h => h) (by kernel_rfl) (fun w' hR => by obtain ⟨x0, x1, x2⟩ := HF.out w' (HCUR.out.trans hR); go_simp; first | done | with_reducible rfl) rfl ?_
            try simp only [Act.put, List.setIfInBounds_toArray, List.set_cons_zero, List.set_cons_succ]
            refine rk_step (fuel := 1) 19 rfl (by kernel_rfl) (listed' := #[true, true, true, true, true, true, true, true, true, true, true, true, true, true, true, true, true, true, true, true, false]) (by kernel_rfl) (by kernel_rfl) (fun K' hK => ?_)
            go_wp2_with (first | (go_at_call 48; refine (lay_calls A5 c5 (fallen keep 0 (q.take k) s) i A c' (c.take c.length) c.length HKL.out _ (Kd.C_drew HC5.out) (Kd.C_drew HCT.out) hi0 (by omega) hbn2 (Or.inr hk0)).mono ?_; rintro e w2 ⟨v2, rfl, hb2, hk2⟩; obtain ⟨A6, c6, rfl, -, -, -⟩ := hb2.reads; have HB2 := Aside0.mk hb2; have HK2 := Aside0.mk hk2; clear hb2 hk2))
            refine hK.out _ _ (Keep.of_below HK2.out) ?_
            clear hK K'
            try simp only [Act.put, List.setIfInBounds_toArray, List.set_cons_zero, List.set_cons_succ]
            refine rk_take (fuel := 0) 20 rfl (by kernel_rfl) (listed' := #[true, true, true, true, true, true, true, true, true, true, true, true, true, true, true, true, true, true, true, true, true]) (by kernel_rfl) (fun _ _ _ h => h) (by kernel_rfl) (fun w' hR => by skip; go_simp; first | done | with_reducible rfl) rfl ?_
            try simp only [Act.put, List.setIfInBounds_toArray, List.set_cons_zero, List.set_cons_succ]
            refine rk_done (by kernel_rfl) ?_
            go_wp2
            go_roundw
            case rel =>
              have hz : wr.drew.heap.size = wr.heap.size := rfl
              refine ⟨k + 1, by omega, by go_num, ⟨?_⟩, ⟨HKP.out.drew.trans (HK2.out.mono (by omega))⟩⟩
              rw [HT.out, if_pos hk0]
              first | exact HB2.out.mono (fun j hj _ => .inr (by omega)) | (rw [List.take_length] at HB2 ⊢; exact HB2.out.mono (fun j hj _ => .inr (by omega)))
            case measure => simp [intOf]; omega
          · clear hi5 hi5s
            go_wp2
            go_roundw
            case rel =>
              refine ⟨k + 1, by omega, by go_num, ⟨?_⟩, HKP⟩
              rw [HT.out, if_neg (by omega)]
              exact HBf.out
            case measure => simp [intOf]; omega
        · by_cases hx0 : 0 < x
          · obtain ⟨kn, rfl⟩ : ∃ kn : Nat, x = kn := ⟨x.toNat, by omega⟩
            have hkn : (max 0 (min (kn : Int) (c.length : Int))).toNat = kn := by omega
            rw [hkn] at HT
            clear hkn
            have hkc : kn ≤ c.length := by omega
            have hk0 : 0 < kn := by omega
            have hrun : ∀ W : World, (Instr.slice 24 (.slice A c.length c') none (some (.int .i64 (kn : Int))) none).run Try.prog W = .ok (.slice A kn c') W := fun W => by simpa using cut_to (P := Try.prog) 24 5 .i64 Try.underlying24 hi5 A c.length c' ((kn : Nat) : Int) (by omega) (by omega) hcc W
            have hCt := Kd.C_take HCc.out hkc
            have hkl : (c.take kn).length = kn := by rw [List.length_take]; omega
            rw [hkl] at hCt
            have HCT := Aside0.mk hCt
            have HKL := Aside0.mk hkl
            have HCUR := Aside0.mk (Keep.refl (fun _ => False) wr.drew)
            clear hCt hkl hi5 hi5s
            go_wp2_with fail
            refine rk_start (fun _ => False) (by kernel_rfl) (n := 21) (l := #[false, false, false, false, false, false, false, false, false, false, false, false, false, false, false, false, false, false, false, false, false]) (by kernel_rfl) (by kernel_rfl) ?_
            refine rk_take (fuel := 20) 0 rfl (by kernel_rfl) (listed' := #[true, false, false, false, false, false, false, false, false, false, false, false, false, false, false, false, false, false, false, false, false]) (by kernel_rfl) (fun _ _ _ h => h) (by kernel_rfl) (fun w' hR => by obtain ⟨x0, x1, x2⟩ := HF.out w' (HCUR.out.trans hR); go_simp; first | done | with_reducible rfl) rfl ?_
            try simp only [Act.put, List.setIfInBounds_toArray, List.set_cons_zero, List.set_cons_succ]
            refine rk_take (fuel := 19) 1 rfl (by kernel_rfl) (listed' := #[true, true, false, false, false, false, false, false, false, false, false, false, false, false, false, false, false, false, false, false, false]) (by kernel_rfl) (fun _ _ _ h => h) (by kernel_rfl) (fun w' hR => by obtain ⟨x0, x1, x2⟩ := HF.out w' (HCUR.out.trans hR); go_simp; first | done | with_reducible rfl) rfl ?_
            try simp only [Act.put, List.setIfInBounds_toArray, List.set_cons_zero, List.set_cons_succ]
            refine rk_take (fuel := 18) 2 rfl (by kernel_rfl) (listed' := #[true, true, true, false, false, false, false, false, false, false, false, false, false, false, false, false, false, false, false, false, false]) (by kernel_rfl) (fun _ _ _ h => h) (by kernel_rfl) (fun w' hR => by obtain ⟨x0, x1, x2⟩ := HF.out w' (HCUR.out.trans hR); go_simp; first | done | with_reducible rfl) rfl ?_
            try simp only [Act.put, List.setIfInBounds_toArray, List.set_cons_zero, List.set_cons_succ]
            refine rk_take (fuel := 17) 3 rfl (by kernel_rfl) (listed' := #[true, true, true, true, false, false, false, false, false, false, false, false, false, false, false, false, false, false, false, false, false]) (by kernel_rfl) (fun _ _ _ h => h) (by kernel_rfl) (fun w' hR => by obtain ⟨x0, x1, x2⟩ := HF.out w' (HCUR.out.trans hR); go_simp; first | done | with_reducible rfl) rfl ?_
            try simp only [Act.put, List.setIfInBounds_toArray, List.set_cons_zero, List.set_cons_succ]
            refine rk_take (fuel := 16) 4 rfl (by kernel_rfl) (listed' := #[true, true, true, true, true, false, false, false, false, false, false, false, false, false, false, false, false, false, false, false, false]) (by kernel_rfl) (fun _ _ _ h => h) (by kernel_rfl) (fun w' hR => by obtain ⟨x0, x1, x2⟩ := HF.out w' (HCUR.out.trans hR); go_simp; first | done | with_reducible rfl) rfl ?_
            try simp only [Act.put, List.setIfInBounds_toArray, List.set_cons_zero, List.set_cons_succ]
            refine rk_take (fuel := 15) 5 rfl (by kernel_rfl) (listed' := #[true, true, true, true, true, true, false, false, false, false, false, false, false, false, false, false, false, false, false, false, false]) (by kernel_rfl) (fun _ _ _ h => h) (by kernel_rfl) (fun w' hR => by obtain ⟨x0, x1, x2⟩ := HF.out w' (HCUR.out.trans hR); go_simp; first | done | with_reducible rfl) rfl ?_
            try simp only [Act.put, List.setIfInBounds_toArray, List.set_cons_zero, List.set_cons_succ]
            refine rk_take (fuel := 14) 6 rfl (by kernel_rfl) (listed' := #[true, true, true, true, true, true, true, false, false, false, false, false, false, false, false, false, false, false, false, false, false]) (by kernel_rfl) (fun _ _ _ h => h) (by kernel_rfl) (fun w' hR => by obtain ⟨x0, x1, x2⟩ := HF.out w' (HCUR.out.trans hR); go_simp; first | done | with_reducible rfl) rfl ?_
            try simp only [Act.put, List.setIfInBounds_toArray, List.set_cons_zero, List.set_cons_succ]
            refine rk_take (fuel := 13) 7 rfl (by kernel_rfl) (listed' := #[true, true, true, true, true, true, true, true, false, false, false, false, false, false, false, false, false, false, false, false, false]) (by kernel_rfl) (fun _ _ _ h => h) (by kernel_rfl) (fun w' hR => by obtain ⟨x0, x1, x2⟩ := HF.out w' (HCUR.out.trans hR); go_simp; first | done | with_reducible rfl) rfl ?_
            try simp only [Act.put, List.setIfInBounds_toArray, List.set_cons_zero, List.set_cons_succ]
            refine rk_take (fuel := 12) 8 rfl (by kernel_rfl) (listed' := #[true, true, true, true, true, true, true, true, true, false, false, false, false, false, false, false, false, false, false, false, false]) (by kernel_rfl) (fun _ _ _ h => h) (by kernel_rfl) (fun w' hR => by obtain ⟨x0, x1, x2⟩ := HF.out w' (HCUR.out.trans hR); go_simp; first | done | with_reducible rfl) rfl ?_
            try simp only [Act.put, List.setIfInBounds_toArray, List.set_cons_zero, List.set_cons_succ]
            refine rk_take (fuel := 11) 9 rfl (by kernel_rfl) (listed' := #[true, true, true, true, true, true, true, true, true, true, false, false, false, false, false, false, false, false, false, false, false]) (by kernel_rfl) (fun _ _ _ h => h) (by kernel_rfl) (fun w' hR => by obtain ⟨x0, x1, x2⟩ := HF.out w' (HCUR.out.trans hR); go_simp; first | done | with_reducible rfl) rfl ?_
            try simp only [Act.put, List.setIfInBounds_toArray, List.set_cons_zero, List.set_cons_succ]
            refine rk_take (fuel := 10) 10 rfl (by kernel_rfl) (listed' := #[true, true, true, true, true, true, true, true, true, true, true, false, false, false, false, false, false, false, false, false, false]) (by kernel_rfl) (fun _ _ _ h => h) (by kernel_rfl) (fun w' hR => by obtain ⟨x0, x1, x2⟩ := HF.out w' (HCUR.out.trans hR); go_simp; first | done | with_reducible rfl) rfl ?_
            try simp only [Act.put, List.setIfInBounds_toArray, List.set_cons_zero, List.set_cons_succ]
            refine rk_take (fuel := 9) 11 rfl (by kernel_rfl) (listed' := #[true, true, true, true, true, true, true, true, true, true, true, true, false, false, false, false, false, false, false, false, false]) (by kernel_rfl) (fun _ _ _ h => h) (by kernel_rfl) (fun w' hR => by obtain ⟨x0, x1, x2⟩ := HF.out w' (HCUR.out.trans hR); go_simp; first | done | with_reducible rfl) rfl ?_
            try simp only [Act.put, List.setIfInBounds_toArray, List.set_cons_zero, List.set_cons_succ]
            refine rk_take (fuel := 8) 12 rfl (by kernel_rfl) (listed' := #[true, true, true, true, true, true, true, true, true, true, true, true, true, false, false, false, false, false, false, false, false]) (by kernel_rfl) (fun _ _ _ h => h) (by kernel_rfl) (fun w' hR => by obtain ⟨x0, x1, x2⟩ := HF.out w' (HCUR.out.trans hR); go_simp; first | done | with_reducible rfl) rfl ?_
            try simp only [Act.put, List.setIfInBounds_toArray, List.set_cons_zero, List.set_cons_succ]
            refine rk_take (fuel := 7) 13 rfl (by kernel_rfl) (listed' := #[true, true, true, true, true, true, true, true, true, true, true, true, true, true, false, false, false, false, false, false, false]) (by kernel_rfl) (fun _ _ _ h => h) (by kernel_rfl) (fun w' hR => by obtain ⟨x0, x1, x2⟩ := HF.out w' (HCUR.out.trans hR); go_simp; first | done | with_reducible rfl) rfl ?_
            try simp only [Act.put, List.setIfInBounds_toArray, List.set_cons_zero, List.set_cons_succ]
            refine rk_take (fuel := 6) 14 rfl (by kernel_rfl) (listed' := #[true, true, true, true, true, true, true, true, true, true, true, true, true, true, true, false, false, false, false, false, false]) (by kernel_rfl) (fun _ _ _ h => h) (by kernel_rfl) (fun w' hR => by obtain ⟨x0, x1, x2⟩ := HF.out w' (HCUR.out.trans hR); go_simp; first | done | with_reducible rfl) rfl ?_
            try simp only [Act.put, List.setIfInBounds_toArray, List.set_cons_zero, List.set_cons_succ]
            refine rk_take (fuel := 5) 15 rfl (by kernel_rfl) (listed' := #[true, true, true, true, true, true, true, true, true, true, true, true, true, true, true, true, false, false, false, false, false]) (by kernel_rfl) (fun _ _ _ h => h) (by kernel_rfl) (fun w' hR => by obtain ⟨x0, x1, x2⟩ := HF.out w' (HCUR.out.trans hR); go_simp; first | done | with_reducible rfl) rfl ?_
            try simp only [Act.put, List.setIfInBounds_toArray, List.set_cons_zero, List.set_cons_succ]
            refine rk_take (fuel := 4) 16 rfl (by kernel_rfl) (listed' := #[true, true, true, true, true, true, true, true, true, true, true, true, true, true, true, true, true, false, false, false, false]) (by kernel_rfl) (fun _ _ _ h => h) (by kernel_rfl) (fun w' hR => by obtain ⟨x0, x1, x2⟩ := HF.out w' (HCUR.out.trans hR); go_simp; first | done | with_reducible rfl) rfl ?_
            try simp only [Act.put, List.setIfInBounds_toArray, List.set_cons_zero, List.set_cons_succ]
            refine rk_take (fuel := 3) 17 rfl (by kernel_rfl) (listed' := #[true, true, true, true, true, true, true, true, true, true, true, true, true, true, true, true, true, true, false, false, false]) (by kernel_rfl) (fun _ _ _ h => h) (by kernel_rfl) (fun w' hR => by obtain ⟨x0, x1, x2⟩ := HF.out w' (HCUR.out.trans hR); go_simp; first | done | with_reducible rfl) rfl ?_
            try simp only [Act.put, List.setIfInBounds_toArray, List.set_cons_zero, List.set_cons_succ]
            refine rk_take (fuel := 2) 18 rfl (by kernel_rfl) (listed' := #[true, true, true, true, true, true, true, true, true, true, true, true, true, true, true, true, true, true, true, false, false]) (by kernel_rfl) (fun _ _ _ h => h) (by kernel_rfl) (fun w' hR => by obtain ⟨x0, x1, x2⟩ := HF.out w' (HCUR.out.trans hR); go_simp; first | done | with_reducible rfl) rfl ?_
            try simp only [Act.put, List.setIfInBounds_toArray, List.set_cons_zero, List.set_cons_succ]
            refine rk_step (fuel := 1) 19 rfl (by kernel_rfl) (listed' := #[true, true, true, true, true, true, true, true, true, true, true, true, true, true, true, true, true, true, true, true, false]) (by kernel_rfl) (by kernel_rfl) (fun K' hK => ?_)
            go_wp2_with (first | (go_at_call 48; refine (lay_calls A5 c5 (fallen keep 0 (q.take k) s) i A c' (c.take kn) kn HKL.out _ (Kd.C_drew HC5.out) (Kd.C_drew HCT.out) hi0 (by omega) hbn2 (Or.inr hk0)).mono ?_; rintro e w2 ⟨v2, rfl, hb2, hk2⟩; obtain ⟨A6, c6, rfl, -, -, -⟩ := hb2.reads; have HB2 := Aside0.mk hb2; have HK2 := Aside0.mk hk2; clear hb2 hk2))
            refine hK.out _ _ (Keep.of_below HK2.out) ?_
            clear hK K'
            try simp only [Act.put, List.setIfInBounds_toArray, List.set_cons_zero, List.set_cons_succ]
            refine rk_take (fuel := 0) 20 rfl (by kernel_rfl) (listed' := #[true, true, true, true, true, true, true, true, true, true, true, true, true, true, true, true, true, true, true, true, true]) (by kernel_rfl) (fun _ _ _ h => h) (by kernel_rfl) (fun w' hR => by skip; go_simp; first | done | with_reducible rfl) rfl ?_
            try simp only [Act.put, List.setIfInBounds_toArray, List.set_cons_zero, List.set_cons_succ]
            refine rk_done (by kernel_rfl) ?_
            go_wp2
            go_roundw
            case rel =>
              have hz : wr.drew.heap.size = wr.heap.size := rfl
              refine ⟨k + 1, by omega, by go_num, ⟨?_⟩, ⟨HKP.out.drew.trans (HK2.out.mono (by omega))⟩⟩
              rw [HT.out, if_pos hk0]
              first | exact HB2.out.mono (fun j hj _ => .inr (by omega)) | (rw [List.take_length] at HB2 ⊢; exact HB2.out.mono (fun j hj _ => .inr (by omega)))
            case measure => simp [intOf]; omega
          · have hkn : (max 0 (min x (c.length : Int))).toNat = 0 := by omega
            rw [hkn] at HT
            clear hkn hi5 hi5s
            go_wp2
            go_roundw
            case rel =>
              refine ⟨k + 1, by omega, by go_num, ⟨?_⟩, HKP⟩
              rw [HT.out, if_neg (by omega)]
              exact HBf.out
            case measure => simp [intOf]; omega
      · have hkx : kept keep k c.length = 0 := by unfold kept; rw [List.getElem?_eq_none (by omega)]
        rw [hkx] at HT
        clear hkx hi5 hi5s
        go_wp2
        go_roundw
        case rel =>
          refine ⟨k + 1, by omega, by go_num, ⟨?_⟩, HKP⟩
          rw [HT.out, if_neg (by omega)]
          exact HBf.out
        case measure => simp [intOf]; omega
    · have hke : k = q.length := by omega
      subst hke
      have hh := HGW.out
      have hfz1 := blk_frozen hh 1
      have hfz2 := blk_frozen hh 2
      have hx1 : wr.cell? ⟨g, 1, none⟩ = some (.slice A1 s.length c1) := by simp [World.cell?, hh]
      clear hh
      obtain ⟨A5, c5, rfl, -, -, -⟩ := HBf.out.reads
      rw [List.take_length] at HBf
      go_wp2
      first | go_end0 | ((try simp only [Exit.inBlock, Exit.then]); refine bodyPost_ret (results_none rfl _ _ _) rfl ?_)
      obtain ⟨h1, h2⟩ := HFM.out.two HKP.out HBf.out (fun k hk => hk.elim (fun h => .inl (HO.out k (.inl h))) .inr)
      exact ⟨rfl, ⟨_, h1, fun k hk => hk.imp id (fun e => e.1)⟩, h2⟩
set_option maxHeartbeats 4000000 in
set_option maxRecDepth 100000 in
theorem write_calls (h : FM w g own room s q) (hok : FOk room s q) (hql : q.length ≤ 1000000) (i : Int) (hi0 : -9223372036854775808 ≤ i) (hi1 : i ≤ 9223372036854775807) (A : Option Addr) (cap : Nat) (c : List Int) (hcl : c.length ≤ 1000000) (hC : kU8.C w A c.length c) :
    Calls Try.prog 46 #[.pointer (some ⟨g, 0, none⟩), .int .i64 i, .slice A c.length cap] w fun e w' => e = .returned (.int .i64 (wErr room (over q s).length i c.length)) ∧
      (∃ own', FM w' g own' room s (wrQ room s q i c) ∧ ∀ k, own' k → own k ∨ w.heap.size ≤ k) ∧ Keep own w w' := by
  have HF := Aside0.mk h
  have HOK := Aside0.mk hok
  have HC := Aside0.mk hC
  have hbn := hok.all.1
  have hr1 := hok.r1
  have hr0 := hok.r0
  by_cases h0 : i < 0
  · have hce : wErr room (over q s).length i c.length = 2 := if_pos (Or.inl h0)
    have HE := Aside0.mk hce
    clear hce hok hC h
    go_enter Try.func46, Try.ntmps46
    go_wp2
    go_ret
    rw [HE.out, show wrQ room s q i c = q from if_neg (by rw [HE.out]; decide)]
    exact ⟨rfl, ⟨own, HF.out, fun k hk => .inl hk⟩, Keep.refl _ _⟩
  by_cases h1 : ((over q s).length : Int) < i
  · have hce : wErr room (over q s).length i c.length = 2 := if_pos (Or.inr h1)
    have HE := Aside0.mk hce
    clear hce hok hC h
    go_enter Try.func46, Try.ntmps46
    go_wp2_with (first | (go_at_call 27; refine (bytes_calls HF.out HOK.out).mono ?_; rintro e w1 ⟨v1, rfl, hu1, hb1⟩; obtain ⟨A9, c9, rfl, -, -, -⟩ := hu1.reads; have HB1 := Aside0.mk hb1; clear hu1 hb1))
    go_ret
    rw [HE.out, show wrQ room s q i c = q from if_neg (by rw [HE.out]; decide)]
    exact ⟨rfl, ⟨own, HF.out.below HB1.out, fun k hk => .inl hk⟩, Keep.of_below HB1.out⟩
  obtain ⟨u1, u2, S1, S2, hh, hb, hr, hsep, ho, hg, hlt⟩ := h
  obtain ⟨A2, c2, rfl, hlc2, -⟩ := Kd.R_reads hr
  have hgl := blk_lt hh
  have q0 : w.cell? ⟨g, 0, none⟩ = some (.int .i64 room) := by simp [World.cell?, hh]
  have y1 := wrI64 (i + c.length) (by omega) (by omega)
  by_cases h2 : room < i + c.length
  · have hce : wErr room (over q s).length i c.length = 50 := by unfold wErr; rw [if_neg (by omega), if_pos h2]
    have HE := Aside0.mk hce
    have hh' := hh
    clear hce hok hC hb hr hsep ho hg hlt hlc2
    go_enter Try.func46, Try.ntmps46
    go_wp2_with (first | (go_at_call 27; refine (bytes_calls HF.out HOK.out).mono ?_; rintro e w1 ⟨v1, rfl, hu1, hb1⟩; obtain ⟨A9, c9, rfl, -, -, -⟩ := hu1.reads; have HB1 := Aside0.mk hb1; have q1 : w1.cell? ⟨g, 0, none⟩ = some (.int .i64 room) := (by simp [World.cell?, (hb1.block g hgl).trans hh']); clear hu1 hb1))
    go_ret
    rw [HE.out, show wrQ room s q i c = q from if_neg (by rw [HE.out]; decide)]
    exact ⟨rfl, ⟨own, HF.out.below HB1.out, fun k hk => .inl hk⟩, Keep.of_below HB1.out⟩
  have hce : wErr room (over q s).length i c.length = 0 := by unfold wErr; rw [if_neg (by omega), if_neg h2]
  have HE := Aside0.mk hce
  have HH := Aside0.mk hh
  have HBf := Aside0.mk hb
  have HR := Aside0.mk hr
  have HSEP := Aside0.mk hsep
  have HO := Aside0.mk ho
  have HLT := Aside0.mk (And.intro hg hlt)
  clear hce hok hC hb hr hsep ho hg hlt hh
  go_enter Try.func46, Try.ntmps46
  go_wp2_with (first | (go_at_call 27; refine (bytes_calls HF.out HOK.out).mono ?_; rintro e w1 ⟨v1, rfl, hu1, hb1⟩; obtain ⟨A9, c9, rfl, -, -, -⟩ := hu1.reads; have HB1 := Aside0.mk hb1; have q1 : w1.cell? ⟨g, 0, none⟩ = some (.int .i64 room) := (by simp [World.cell?, (hb1.block g hgl).trans HH.out]); clear hu1 hb1))
  have hz1 := HB1.out.size
  have HF1 := Aside0.mk (show ∀ W, Keep (fun k => S2 k ∨ w1.heap.size ≤ k) w1.drew W → W.cell? ⟨g, 2, none⟩ = some (.slice A2 q.length c2) from fun W hW => by
    have h := (hW.block g (by show g < w1.heap.size; omega) (fun h => h.elim (fun h => (HO.out g (.inr h)).2 rfl) (fun h => by omega))).trans ((HB1.out.block g hgl).trans HH.out)
    simp [World.cell?, h])
  have HCUR := Aside0.mk (Keep.refl (fun k => S2 k ∨ w1.heap.size ≤ k) w1.drew)
  have HC1 := Aside0.mk (Kd.C_below HC.out HB1.out)
  clear q0 q1 y1
  have HA2 := Aside0.mk (show ∀ k, (Value.slice A2 q.length c2).ownBlock = some k → S2 k ∧ k < w.heap.size from fun k hk => ⟨HR.out.1 k hk, HLT.out.2 k (HO.out k (.inr (HR.out.1 k hk))).1⟩)
  obtain ⟨v2, w2, hr2, ho2, hg2, -⟩ := run_append_rows (P := Try.prog) 24 24 5 1 w1.heap.size Try.underlying24 infoU8 (by decide) (.slice (some ⟨w1.heap.size, 0, none⟩) 0 0) [] c A c.length cap (R_lit0 kU8 5 w1.drew) (Kd.C_alloc (Kd.C_drew HC1.out) (.cells #[] 5)) (by simp) (by simp; omega)
  rw [List.nil_append] at ho2
  obtain ⟨A3, c3, rfl, -, -⟩ := Kd.R_reads ho2
  have HAL0 := Aside0.mk (Keep.of_below (S := fun k => S2 k ∨ w1.heap.size ≤ k) ((Below.refl w1.drew.heap.size w1.drew).alloc (Nat.le_refl _) (.cells #[] 5)))
  have HB2 := Aside0.mk (show Below w1.heap.size w1.drew w2 from ((Below.refl w1.heap.size w1.drew).alloc (Nat.le_refl _) (.cells #[] 5)).grown hg2 (by simp) (fun k hk => by simp only [Value.ownBlock, Option.some.injEq] at hk; omega))
  have HO2 := Aside0.mk ho2
  have HR2 := Aside0.mk hr2
  have HG2 := Aside0.mk (show Keep (fun k => S2 k ∨ w1.heap.size ≤ k) (w1.drew.alloc (.cells #[] 5)) w2 from ⟨hg2.os, hg2.tape, hg2.output, hg2.size, fun k hk hs => hg2.block k hk (fun e => by simp only [Value.ownBlock, Option.some.injEq] at e; exact hs (.inr (by omega)))⟩)
  clear ho2 hr2 hg2
  refine re_start [14] (fun k => S2 k ∨ w1.heap.size ≤ k) (by kernel_rfl) (n := 15) (l := #[false, false, false, false, false, false, false, false, false, false, false, false, false, false, false]) (by kernel_rfl) (by kernel_rfl) ?_
  refine re_take (fuel := 14) 0 rfl (by kernel_rfl) (listed' := #[true, false, false, false, false, false, false, false, false, false, false, false, false, false, false]) (by kernel_rfl) (fun _ _ _ h => h) (by kernel_rfl) (fun w' hR => by have x0 := HF1.out w' (HCUR.out.trans hR); go_simp; first | done | with_reducible rfl) rfl ?_
  try simp only [Act.put, List.setIfInBounds_toArray, List.set_cons_zero, List.set_cons_succ]
  refine re_take (fuel := 13) 1 rfl (by kernel_rfl) (listed' := #[true, true, false, false, false, false, false, false, false, false, false, false, false, false, false]) (by kernel_rfl) (fun _ _ _ h => h) (by kernel_rfl) (fun w' hR => by have x0 := HF1.out w' (HCUR.out.trans hR); go_simp; first | done | with_reducible rfl) rfl ?_
  try simp only [Act.put, List.setIfInBounds_toArray, List.set_cons_zero, List.set_cons_succ]
  refine re_take (fuel := 12) 2 rfl (by kernel_rfl) (listed' := #[true, true, true, false, false, false, false, false, false, false, false, false, false, false, false]) (by kernel_rfl) (fun _ _ _ h => h) (by kernel_rfl) (fun w' hR => by have x0 := HF1.out w' (HCUR.out.trans hR); go_simp; first | done | with_reducible rfl) rfl ?_
  try simp only [Act.put, List.setIfInBounds_toArray, List.set_cons_zero, List.set_cons_succ]
  refine re_take (fuel := 11) 3 rfl (by kernel_rfl) (listed' := #[true, true, true, true, false, false, false, false, false, false, false, false, false, false, false]) (by kernel_rfl) (fun _ _ _ h => h) (by kernel_rfl) (fun w' hR => by have x0 := HF1.out w' (HCUR.out.trans hR); go_simp; first | done | with_reducible rfl) rfl ?_
  try simp only [Act.put, List.setIfInBounds_toArray, List.set_cons_zero, List.set_cons_succ]
  refine re_take (fuel := 10) 4 rfl (by kernel_rfl) (listed' := #[true, true, true, true, true, false, false, false, false, false, false, false, false, false, false]) (by kernel_rfl) (fun _ _ _ h => h) (by kernel_rfl) (fun w' hR => by have x0 := HF1.out w' (HCUR.out.trans hR); go_simp; first | done | with_reducible rfl) rfl ?_
  try simp only [Act.put, List.setIfInBounds_toArray, List.set_cons_zero, List.set_cons_succ]
  refine re_take (fuel := 9) 5 rfl (by kernel_rfl) (listed' := #[true, true, true, true, true, true, false, false, false, false, false, false, false, false, false]) (by kernel_rfl) (fun _ _ _ h => h) (by kernel_rfl) (fun w' hR => by have x0 := HF1.out w' (HCUR.out.trans hR); go_simp; first | done | with_reducible rfl) rfl ?_
  try simp only [Act.put, List.setIfInBounds_toArray, List.set_cons_zero, List.set_cons_succ]
  refine re_take (fuel := 8) 7 rfl (by kernel_rfl) (listed' := #[true, true, true, true, true, true, false, true, false, false, false, false, false, false, false]) (by kernel_rfl) (fun _ _ _ h => h) (by kernel_rfl) (fun w' hR => by have x0 := HF1.out w' (HCUR.out.trans hR); go_simp; first | done | with_reducible rfl) rfl ?_
  try simp only [Act.put, List.setIfInBounds_toArray, List.set_cons_zero, List.set_cons_succ]
  refine re_step (fuel := 7) 6 rfl (by kernel_rfl) (listed' := #[true, true, true, true, true, true, true, true, false, false, false, false, false, false, false]) (by kernel_rfl) (by kernel_rfl) (fun K' hK => ?_)
  (go_wp2_with fail)
  refine hK.out _ _ HAL0.out ?_
  clear hK K'
  try simp only [Act.put, List.setIfInBounds_toArray, List.set_cons_zero, List.set_cons_succ]
  refine re_step (fuel := 6) 8 rfl (by kernel_rfl) (listed' := #[true, true, true, true, true, true, true, true, true, false, false, false, false, false, false]) (by kernel_rfl) (by kernel_rfl) (fun K' hK => ?_)
  refine wp_append (.tmp 31) (.tmp 32) 24 24 rfl _ _ _ rfl rfl HR2.out ?_
  refine hK.out _ _ HG2.out ?_
  clear hK K'
  try simp only [Act.put, List.setIfInBounds_toArray, List.set_cons_zero, List.set_cons_succ]
  refine re_take (fuel := 5) 9 rfl (by kernel_rfl) (listed' := #[true, true, true, true, true, true, true, true, true, true, false, false, false, false, false]) (by kernel_rfl) (fun _ _ _ h => h) (by kernel_rfl) (fun w' hR => by skip; go_simp; first | done | with_reducible rfl) rfl ?_
  try simp only [Act.put, List.setIfInBounds_toArray, List.set_cons_zero, List.set_cons_succ]
  refine re_step (fuel := 4) 10 rfl (by kernel_rfl) (listed' := #[true, true, true, true, true, true, true, true, true, true, true, false, false, false, false]) (by kernel_rfl) (by kernel_rfl) (fun K' hK => ?_)
  (go_wp2_with fail); have HAL := Aside0.mk (Keep.of_below (S := fun k => S2 k ∨ w1.heap.size ≤ k) ((Below.refl w2.heap.size w2).alloc (Nat.le_refl _) (.cells #[.int .i64 i, .slice A3 c.length c3] 101))); have HCUR := Aside0.mk (((HCUR.out.trans HAL0.out).trans HG2.out).trans HAL.out)
  refine hK.out _ _ HAL.out ?_
  clear hK K'
  try simp only [Act.put, List.setIfInBounds_toArray, List.set_cons_zero, List.set_cons_succ]
  refine re_step (fuel := 3) 11 rfl (by kernel_rfl) (listed' := #[true, true, true, true, true, true, true, true, true, true, true, true, false, false, false]) (by kernel_rfl) (by kernel_rfl) (fun K' hK => ?_)
  refine R_append_wp kW (W := w2) 0 (.tmp 29) (.tmp 35) 41 101 (.agg #[.int .i64 0, .slice none 0 0]) 32 rfl Try.underlying41 infoW rfl (by decide) (by decide) (.slice A2 q.length c2) q (i, c) [.int .i64 i, .slice A3 c.length c3] (fun k => S2 k ∨ w1.heap.size ≤ k) (fun k => w1.heap.size ≤ k) rfl rfl ⟨[_], [_], rfl, rfl, _, rfl, Kd.R_mono (Kd.R_lower (Kd.R_bound HO2.out) (Nat.zero_le _)) (fun k hk => hk.2.1)⟩ (fun k hk => ⟨.inr hk, fun e => by have := HA2.out k e.symm; omega⟩) (fun k hk => .inr (Nat.le_trans HB2.out.size hk)) (Kd.R_mono (Kd.R_step (Kd.R_below HR.out HB1.out) (fun k _ hk => HB2.out.block k hk)) (fun k hk => .inl hk)) (Nat.zero_le _) (by omega) ?_; intro v3 w3 hr3 hg3 hg3' hat3; obtain ⟨A4, c4, rfl, -, -⟩ := Kd.R_reads hr3; have HG3 := Aside0.mk (grown_keep (S := fun k => S2 k ∨ w1.heap.size ≤ k) hg3' (fun k hk => .inl (HA2.out k hk).1)); have HR3 := Aside0.mk hr3; have HCUR := Aside0.mk (HCUR.out.trans HG3.out); clear hr3 hg3 hg3' hat3
  refine hK.out _ _ HG3.out ?_
  clear hK K'
  try simp only [Act.put, List.setIfInBounds_toArray, List.set_cons_zero, List.set_cons_succ]
  refine re_take (fuel := 2) 12 rfl (by kernel_rfl) (listed' := #[true, true, true, true, true, true, true, true, true, true, true, true, true, false, false]) (by kernel_rfl) (fun _ _ _ h => h) (by kernel_rfl) (fun w' hR => by skip; go_simp; first | done | with_reducible rfl) rfl ?_
  try simp only [Act.put, List.setIfInBounds_toArray, List.set_cons_zero, List.set_cons_succ]
  refine re_take (fuel := 1) 13 rfl (by kernel_rfl) (listed' := #[true, true, true, true, true, true, true, true, true, true, true, true, true, true, false]) (by kernel_rfl) (fun _ _ _ h => h) (by kernel_rfl) (fun w' hR => by skip; go_simp; first | done | with_reducible rfl) rfl ?_
  try simp only [Act.put, List.setIfInBounds_toArray, List.set_cons_zero, List.set_cons_succ]
  refine re_free (fuel := 0) 14 rfl (by kernel_rfl) (listed' := #[true, true, true, true, true, true, true, true, true, true, true, true, true, true, true]) (by kernel_rfl) (by kernel_rfl) (fun K' hK => ?_)
  have hh3 := (HCUR.out.block g (by show g < w1.heap.size; omega) (fun h => h.elim (fun h => (HO.out g (.inr h)).2 rfl) (fun h => by omega))).trans ((HB1.out.block g hgl).trans HH.out); have hfz := blk_frozen hh3 2; have hx3 : w3.cell? ⟨g, 2, none⟩ = some (.slice A2 q.length c2) := (by simp [World.cell?, hh3]); have HH3 := Aside0.mk hh3; clear hh3; go_wp2_with fail
  refine hK.out _ _ trivial ?_
  clear hK K'
  try simp only [Act.put, List.setIfInBounds_toArray, List.set_cons_zero, List.set_cons_succ]
  refine re_done (by kernel_rfl) ?_
  go_wp2
  go_ret
  rw [HE.out, show wrQ room s q i c = q ++ [(i, c)] from if_pos HE.out]
  obtain ⟨hg, hlt⟩ := HLT.out
  have hz3 := HCUR.out.size
  have hz1' : w1.drew.heap.size = w1.heap.size := rfl
  have hK3 : Keep S2 w w3 := (Keep.of_below (S := S2) HB1.out).drew.then HCUR.out (fun k hl h => h.elim id (fun h => by omega))
  have hres := heap_setCell_same w3 g 2 _ 43 (.slice A4 (q.length + 1) c4) HH3.out
  have hR3 := HR3.out
  rw [show (q ++ [(i, c)]).length = q.length + 1 by simp] at hR3
  have hown : ∀ k, S1 k ∨ S2 k → own k ∧ k ≠ g := HO.out
  refine ⟨rfl, ⟨fun k => own k ∨ w1.heap.size ≤ k ∧ k < w3.heap.size, ⟨u1, _, S1, fun k => S2 k ∨ w1.heap.size ≤ k ∧ k < w3.heap.size, hres, ?_, ?_, fun k h1 h2 => ?_, fun k hk => ?_, .inl hg, fun k hk => ?_⟩, fun k hk => hk.imp id (fun h => by omega)⟩, ?_⟩
  · refine HBf.out.step (fun k hk hl => ?_)
    rw [Below.heap_setCell _ _ _ _ (by show k ≠ g; exact (hown k (.inl hk)).2)]
    exact hK3.block k hl (HSEP.out k hk)
  · refine Kd.R_mono (Kd.R_far (p := ⟨g, 2, none⟩) (Kd.R_mono (ok' := fun k => (S2 k ∨ w1.heap.size ≤ k) ∧ k < w3.heap.size) (Kd.R_bound hR3) (fun k hk => ⟨hk.1, hk.2.2.1⟩)) (fun k hk => ?_) _) (fun k hk => ?_)
    · show k ≠ g
      rcases hk.1 with h | h
      · exact (hown k (.inr h)).2
      · omega
    · rcases hk with ⟨h | h, h'⟩
      · exact .inl h
      · exact .inr ⟨h, h'⟩
  · rcases h2 with h2 | h2
    · exact HSEP.out k h1 h2
    · have := hlt k (hown k (.inl h1)).1
      omega
  · rcases hk with hk | hk | hk
    · exact ⟨.inl (hown k (.inl hk)).1, (hown k (.inl hk)).2⟩
    · exact ⟨.inl (hown k (.inr hk)).1, (hown k (.inr hk)).2⟩
    · exact ⟨.inr hk, by omega⟩
  · rw [World.size_setCell]
    rcases hk with hk | hk
    · have := hlt k hk; omega
    · exact hk.2
  · exact (hK3.mono (fun k _ hk => (hown k (.inr hk)).1)).setCell _ _ (fun _ => hg)
end
end Go.Proofs.Ytfcpnjoiloahcaa.Fr
namespace Go.Proofs.Ytfcpnjoiloahcaa.Fd
open Go.RowKit Go.Proofs.YtfcpnjoiloahcaaW.PrintWords Go.Proofs.YtfcpnjoiloahcaaW.PrintLast Go.Proofs.YtfcpnjoiloahcaaW.PrintMore Go.Proofs.Ytfcpnjoiloahcaa.B Go.Proofs.Ytfcpnjoiloahcaa.Fs Go.Proofs.Ytfcpnjoiloahcaa.Fc Go.Proofs.Ytfcpnjoiloahcaa.Fw Go.Proofs.Ytfcpnjoiloahcaa.R
set_option linter.unusedVariables false
set_option linter.unusedSimpArgs false
abbrev FF := Fl 80 98
section
variable {w : World} {g : Nat} {own : Nat → Prop} {room : Int} {s : List Int} {q : List (Int × List Int)}
set_option maxHeartbeats 2000000 in
set_option maxRecDepth 100000 in
theorem bytes_calls (h : FF w g own room s q) (hok : FOk room s q) :
    Calls Try.prog 26 #[.pointer (some ⟨g, 0, none⟩)] w fun e w' => ∃ v, e = .returned v ∧ Buf .u8 5 w' (fun k => w.heap.size ≤ k) v (over q s) ∧ Below w.heap.size w w' := by
  obtain ⟨v1, v2, S1, S2, hh, hb, hr, hs, ho, hg, hlt⟩ := h
  obtain ⟨A1, c1, rfl, hlc1, hC1, hA1⟩ := hb.reads
  obtain ⟨A2, c2, rfl, hlc2, hC2⟩ := Kd.R_reads hr
  have hql := hC2.2.1
  clear hC2
  have q0 : w.cell? ⟨g, 1, none⟩ = some (.slice A1 s.length c1) := by simp [World.cell?, hh]
  have q1 : w.cell? ⟨g, 2, none⟩ = some (.slice A2 q.length c2) := by simp [World.cell?, hh]
  have HH := Aside0.mk hh
  have HR := Aside0.mk hr
  have HOK := Aside0.mk hok
  have HC1 := Aside0.mk hC1
  have hsl : s.length ≤ 4194304 := by have := hok.s0; have := hok.r1; omega
  have HS2 := Aside0.mk (show ∀ k, S2 k → k < w.heap.size from fun k hk => hlt k (ho k (.inr hk)).1)
  clear hh hb hr hok hs ho hg hlt hA1 hC1
  go_enter Try.func26, Try.ntmps26
  go_wp2_with (first | (go_at_call 49; refine (clone_calls A1 c1 s _ HC1.out (by omega)).mono ?_; rintro e w1 ⟨v1, rfl, ho1, hb1⟩; have HB1 := Aside0.mk hb1; have HU1 := Aside0.mk ((Buf.of_R ho1).mono (S' := fun k => w.heap.size ≤ k) (fun k hk _ => hk.2.1)); have q1 : w1.cell? ⟨g, 2, none⟩ = some (.slice A2 q.length c2) := (by simp [World.cell?, (hb1.block g (blk_lt HH.out)).trans HH.out]); clear hb1 ho1))
  clear q0 q1
  have HR1 := Aside0.mk (Kd.R_below HR.out HB1.out)
  go_loopw [3, 18] (fun vo vi wr => ∃ k : Nat, k ≤ q.length ∧ vi = .int .i64 k ∧ Aside0 (Buf .u8 5 wr (fun k => w.heap.size ≤ k) vo (over (q.take k) s)) ∧ Aside0 (Below w.heap.size w wr)) (fun _ vi _ => q.length - (intOf vi).toNat)
  case atStart => exact ⟨0, by omega, rfl, HU1, HB1⟩
  case round =>
    clear HB1 HU1 HR1
    obtain ⟨k, hk, rfl, HU, HB⟩ := hrel
    by_cases hlt : k < q.length
    · obtain ⟨⟨i, c⟩, hp⟩ : ∃ p, q[k]? = some p := ⟨_, List.getElem?_eq_getElem hlt⟩
      obtain ⟨ad, A, c', rfl, hs2, hadl, q2, q3, hcc, hCc, hAc⟩ := W_get (Kd.R_below HR.out HB.out) hp
      have hpt := HOK.out.part k
      obtain ⟨hi0, hi1, hi2, hby⟩ := HOK.out.ok.get hp
      simp only at hi0 hi1 hi2 hby
      have hr1 := HOK.out.r1
      have hbnd : i + c.length ≤ 16777216 := by omega
      have hbn2 : (over (q.take k) s).length ≤ 16777216 := by omega
      have HT := Aside0.mk (over_take (b := s) hp)
      have HCc := Aside0.mk hCc
      have HAc := Aside0.mk hAc
      clear hp hCc hAc hby hpt hi2 hr1 hs2 hadl
      obtain ⟨A3, c3, rfl, hlc3, -, -⟩ := HU.out.reads
      have hal : Below wr.heap.size wr (wr.alloc (.cells #[.int .i64 i, .slice A c.length c'] 98)) := (Below.refl _ _).alloc (Nat.le_refl _) _
      have HAL := Aside0.mk hal
      have HCc2 := Aside0.mk (Kd.C_below HCc.out HAL.out)
      have hzs : w.heap.size ≤ wr.heap.size := HB.out.size
      clear hal
      go_wp2_with (first | (go_at_call 47; refine (put_any _ (fun k => w.heap.size ≤ k) (over (q.take k) s) i A c' c _ rfl _ (HU.out.below HAL.out) HCc2.out (fun a ha => ⟨Nat.not_le.2 (HS2.out _ (HAc.out a ha).1), Nat.lt_of_lt_of_le (HAc.out a ha).2 HAL.out.size⟩) hi0 hbnd hbn2 (Or.inl hi1)).mono ?_; rintro e w2 ⟨v2, rfl, hb2, hk2⟩; have HB2 := Aside0.mk hb2; have HK2 := Aside0.mk hk2; clear hb2 hk2))
      go_roundw
      case rel =>
        have hz := HAL.out.size
        refine ⟨k + 1, by omega, by go_num, ⟨by rw [HT.out]; exact HB2.out.mono (fun j hj _ => by omega)⟩, ⟨Keep.below_then (HB.out.trans (HAL.out.mono hzs)) HK2.out (by omega) (fun j hj h => by omega)⟩⟩
      case measure => simp [intOf]; omega
    · have hke : k = q.length := by omega
      subst hke
      go_wp2
      go_ret
      rw [List.take_length] at HU
      exact ⟨_, rfl, HU.out, HB.out⟩
theorem sure_calls (h : FF w g own room s q) :
    Calls Try.prog 28 #[.pointer (some ⟨g, 0, none⟩)] w fun e w' => e = .returned (.int .i64 s.length) ∧ w = w' := by
  obtain ⟨v1, v2, S1, S2, hh, hb, hr, hs, ho, hg, hlt⟩ := h
  obtain ⟨A1, c1, rfl, hlc1, hC1, hA1⟩ := hb.reads
  have q0 : w.cell? ⟨g, 1, none⟩ = some (.slice A1 s.length c1) := by simp [World.cell?, hh]
  clear hh hb hr hs ho hg hlt hA1 hC1
  go_enter Try.func28, Try.ntmps28
  go_wp2
  go_ret
  exact ⟨rfl, rfl⟩
/-- Two cells of the file's block are turned. -/
theorem set_two (h : FF w g own room s q) {w1 : World} (hb : Below w.heap.size w w1) {v : Value} {s' : List Int} (hv : Buf .u8 5 w1 (fun k => w.heap.size ≤ k) v s') :
    FF ((w1.setCell ⟨g, 1, none⟩ v).setCell ⟨g, 2, none⟩ (.slice none 0 0)) g (fun k => k = g ∨ w.heap.size ≤ k ∧ k < w1.heap.size) room s' [] ∧ Keep own w ((w1.setCell ⟨g, 1, none⟩ v).setCell ⟨g, 2, none⟩ (.slice none 0 0)) ∧ own g ∧ g < w.heap.size := by
  obtain ⟨v1, v2, S1, S2, hh, hb1, hr, hs, ho, hg, hlt⟩ := h
  have hgl := blk_lt hh
  have hh1 := (hb.block g hgl).trans hh
  have hh2 := heap_setCell_same w1 g 1 _ 80 v hh1
  have hh3 := heap_setCell_same _ g 2 _ 80 (.slice none 0 0) hh2
  refine ⟨⟨v, .slice none 0 0, fun k => w.heap.size ≤ k ∧ k < w1.heap.size, fun _ => False, hh3, ?_, Kd.R_nil _ _ _ _ _, fun _ _ h => h, fun k hk => ?_, .inl rfl, fun k hk => ?_⟩, ((Keep.of_below hb).setCell _ _ (fun _ => hg)).setCell _ _ (fun _ => hg), hg, hgl⟩
  · refine (hv.mono (fun k h h' => ⟨h, h'⟩)).step (fun k hk hl => ?_)
    rw [Below.heap_setCell _ _ _ _ (by show k ≠ g; omega), Below.heap_setCell _ _ _ _ (by show k ≠ g; omega)]
  · rcases hk with hk | hk
    · exact ⟨.inr hk, by omega⟩
    · exact hk.elim
  · have := hb.size
    simp only [World.size_setCell]
    omega
theorem sync_calls (h : FF w g own room s q) (hok : FOk room s q) :
    Calls Try.prog 31 #[.pointer (some ⟨g, 0, none⟩)] w fun e w' => e = .returned (.tuple #[]) ∧ (∃ own', FF w' g own' room (over q s) [] ∧ ∀ k, own' k → own k ∨ w.heap.size ≤ k) ∧ Keep own w w' := by
  have HF := Aside0.mk h
  have HOK := Aside0.mk hok
  obtain ⟨u1, u2, -, -, hh, -⟩ := h
  clear hok
  go_enter Try.func31, Try.ntmps31
  go_wp2_with (first | (go_at_call 26; refine (bytes_calls HF.out HOK.out).mono ?_; rintro e w1 ⟨v1, rfl, hu1, hb1⟩; obtain ⟨A9, c9, rfl, -, -, -⟩ := hu1.reads; have HU1 := Aside0.mk hu1; have hh1 := (hb1.block g (blk_lt hh)).trans hh; have HB1 := Aside0.mk hb1; have hfz1 := blk_frozen hh1 1; have hfz2 := blk_frozen hh1 2; have hce1 : w1.cell? ⟨g, 1, none⟩ = some u1 := (by simp [World.cell?, hh1]); have hce2 : w1.cell? ⟨g, 2, none⟩ = some u2 := (by simp [World.cell?, hh1]); clear hu1 hb1 hh1))
  first | go_end0 | ((try simp only [Exit.inBlock, Exit.then]); refine bodyPost_ret (results_none rfl _ _ _) rfl ?_)
  obtain ⟨h1, h2, h3, h4⟩ := set_two HF.out HB1.out HU1.out
  exact ⟨rfl, ⟨_, h1, fun k hk => hk.elim (fun e => .inl (by rw [e]; exact h3)) (fun e => .inr e.1)⟩, h2⟩
theorem new_calls (room : Int) (w : World) (h0 : 0 ≤ room) (h1 : room ≤ 4194304) :
    Calls Try.prog 16 #[.int .i64 room] w fun e w' => e = .returned (.tuple #[.pointer (some ⟨w.heap.size, 0, none⟩), .int .i64 0]) ∧ FF w' w.heap.size (fun k => k = w.heap.size) room [] [] ∧ Below w.heap.size w w' := by
  go_enter Try.func16, Try.ntmps16
  go_wp2
  go_ret2
  exact ⟨rfl, Fl.made room _ _ w, (Below.refl _ _).alloc (Nat.le_refl _) _⟩
theorem new_refused (room : Int) (w : World) (h : room < 0 ∨ 4194304 < room) :
    Calls Try.prog 16 #[.int .i64 room] w fun e w' => e = .returned (.tuple #[.pointer none, .int .i64 2]) ∧ w = w' := by
  by_cases h0 : room < 0
  · go_enter Try.func16, Try.ntmps16
    go_wp2
    go_ret2
    exact ⟨rfl, rfl⟩
  · have h1 : 4194304 < room := by omega
    clear h
    go_enter Try.func16, Try.ntmps16
    go_wp2
    go_ret2
    exact ⟨rfl, rfl⟩
end
end Go.Proofs.Ytfcpnjoiloahcaa.Fd
namespace Go.Proofs.Ytfcpnjoiloahcaa.Fd
open Go.RowKit Go.Proofs.YtfcpnjoiloahcaaW.PrintWords Go.Proofs.YtfcpnjoiloahcaaW.PrintLast Go.Proofs.YtfcpnjoiloahcaaW.PrintMore Go.Proofs.Ytfcpnjoiloahcaa.B Go.Proofs.Ytfcpnjoiloahcaa.Fs Go.Proofs.Ytfcpnjoiloahcaa.Fc Go.Proofs.Ytfcpnjoiloahcaa.Fw Go.Proofs.Ytfcpnjoiloahcaa.R
set_option linter.unusedVariables false
set_option linter.unusedSimpArgs false
theorem infoW : (Try.prog.info? 98).map (fun i => (i.zero, i.size, i.bytes)) = some (some (.agg #[.int .i64 0, .slice none 0 0]), 2, 32) := by kernel_rfl
section
variable {w : World} {g : Nat} {own : Nat → Prop} {room : Int} {s : List Int} {q : List (Int × List Int)}
set_option maxHeartbeats 2000000 in
set_option maxRecDepth 100000 in
theorem cut_calls (h : FF w g own room s q) (hok : FOk room s q) (n : Int) :
    Calls Try.prog 42 #[.pointer (some ⟨g, 0, none⟩), .int .i64 n] w fun e w' => e = .returned (.int .i64 (cErr (over q s).length n)) ∧
      (∃ own', FF w' g own' room (cutS s q n) (cutQ s q n) ∧ ∀ k, own' k → own k ∨ w.heap.size ≤ k) ∧ Keep own w w' := by
  have HF := Aside0.mk h
  have HOK := Aside0.mk hok
  obtain ⟨u1, u2, -, -, hh, -⟩ := h
  have hbn := hok.all.1
  have hr1 := hok.r1
  clear hok
  by_cases h0 : n < 0
  · have hce : cErr (over q s).length n = 2 := if_pos (Or.inl h0)
    have HE := Aside0.mk hce
    clear hce hh
    go_enter Try.func42, Try.ntmps42
    go_wp2
    go_ret
    rw [HE.out, show cutS s q n = s from if_neg (by rw [HE.out]; decide), show cutQ s q n = q from if_neg (by rw [HE.out]; decide)]
    exact ⟨rfl, ⟨own, HF.out, fun k hk => .inl hk⟩, Keep.refl _ _⟩
  by_cases h1 : ((over q s).length : Int) < n
  · have hce : cErr (over q s).length n = 2 := if_pos (Or.inr h1)
    have HE := Aside0.mk hce
    clear hce hh
    go_enter Try.func42, Try.ntmps42
    go_wp2_with (first | (go_at_call 26; refine (bytes_calls HF.out HOK.out).mono ?_; rintro e w1 ⟨v1, rfl, hu1, hb1⟩; obtain ⟨A9, c9, rfl, -, -, -⟩ := hu1.reads; have HB1 := Aside0.mk hb1; clear hu1 hb1))
    go_ret
    rw [HE.out, show cutS s q n = s from if_neg (by rw [HE.out]; decide), show cutQ s q n = q from if_neg (by rw [HE.out]; decide)]
    exact ⟨rfl, ⟨own, HF.out.below HB1.out, fun k hk => .inl hk⟩, Keep.of_below HB1.out⟩
  have hce : cErr (over q s).length n = 0 := if_neg (by omega)
  have HE := Aside0.mk hce
  clear hce
  obtain ⟨i5, hi5, -, hi5s, -⟩ := info_ex infoU8
  obtain ⟨m, hm⟩ : ∃ m, m = (over q s).length := ⟨_, rfl⟩
  have hh' := hh
  go_enter Try.func42, Try.ntmps42
  go_wp2_with (first
    | (go_at_call 26; (refine (Calls.mono (bytes_calls (w := w) HF.out HOK.out) ?_)); rintro e w1 ⟨v1, rfl, hu1, hb1⟩; obtain ⟨A9, c9, rfl, -, -, -⟩ := hu1.reads; have HB1 := Aside0.mk hb1; clear hu1 hb1)
    | (go_at_call 26; refine (bytes_calls (HF.out.below HB1.out) HOK.out).mono ?_; rintro e w2 ⟨v2, rfl, hu2, hb2⟩; obtain ⟨A8, c8, rfl, hlc8, -, hA8⟩ := hu2.reads; have hrun := fun W : World => slice_cap 24 5 .i64 .i64 Try.underlying24 hi5 A8 (over q s).length c8 n (by omega) (by omega) W; have HU2 := Aside0.mk hu2; have HB2 := Aside0.mk hb2; have hh2 := (hb2.block g (by have := HB1.out.size; have := blk_lt hh; omega)).trans ((HB1.out.block g (blk_lt hh)).trans hh'); have hfz1 := blk_frozen hh2 1; have hfz2 := blk_frozen hh2 2; have hce1 : w2.cell? ⟨g, 1, none⟩ = some u1 := (by simp [World.cell?, hh2]); have hce2 : w2.cell? ⟨g, 2, none⟩ = some u2 := (by simp [World.cell?, hh2]); clear hu2 hb2 hh2 hA8))
  go_ret
  rw [HE.out, show cutS s q n = (over q s).take n.toNat from if_pos HE.out, show cutQ s q n = [] from if_pos HE.out]
  have hz1 := HB1.out.size
  have hv : Buf .u8 5 w2 (fun k => w1.heap.size ≤ k) (.slice A8 n.toNat n.toNat) ((over q s).take n.toNat) := HU2.out.short rfl (by omega) (Nat.le_refl _) (by omega) (fun e => by
    subst e
    rcases HU2.out with ⟨_, h⟩ | ⟨_, _, _, h, _⟩
    · rw [h] at h1; simp only [List.length_nil] at h1; omega
    · cases h)
  obtain ⟨r1, r2, r3, r4⟩ := set_two (HF.out.below HB1.out) HB2.out hv
  exact ⟨rfl, ⟨_, r1, fun k hk => hk.elim (fun e => .inl (by rw [e]; exact r3)) (fun e => .inr (by omega))⟩, (Keep.of_below HB1.out).trans r2⟩
set_option maxHeartbeats 4000000 in
set_option maxRecDepth 100000 in
theorem write_calls (h : FF w g own room s q) (hok : FOk room s q) (hql : q.length ≤ 1000000) (i : Int) (hi0 : -9223372036854775808 ≤ i) (hi1 : i ≤ 9223372036854775807) (A : Option Addr) (cap : Nat) (c : List Int) (hC : kU8.C w A c.length c) :
    Calls Try.prog 30 #[.pointer (some ⟨g, 0, none⟩), .int .i64 i, .slice A c.length cap] w fun e w' => e = .returned (.int .i64 (wErr room (over q s).length i c.length)) ∧
      (∃ own', FF w' g own' room s (wrQ room s q i c) ∧ ∀ k, own' k → own k ∨ w.heap.size ≤ k) ∧ Keep own w w' := by
  have HF := Aside0.mk h
  have HOK := Aside0.mk hok
  have HC := Aside0.mk hC
  have hbn := hok.all.1
  have hr1 := hok.r1
  have hr0 := hok.r0
  have hcl := hC.2.1
  by_cases h0 : i < 0
  · have hce : wErr room (over q s).length i c.length = 2 := if_pos (Or.inl h0)
    have HE := Aside0.mk hce
    clear hce hok hC h
    go_enter Try.func30, Try.ntmps30
    go_wp2
    go_ret
    rw [HE.out, show wrQ room s q i c = q from if_neg (by rw [HE.out]; decide)]
    exact ⟨rfl, ⟨own, HF.out, fun k hk => .inl hk⟩, Keep.refl _ _⟩
  by_cases h1 : ((over q s).length : Int) < i
  · have hce : wErr room (over q s).length i c.length = 2 := if_pos (Or.inr h1)
    have HE := Aside0.mk hce
    clear hce hok hC h
    go_enter Try.func30, Try.ntmps30
    go_wp2_with (first | (go_at_call 26; refine (bytes_calls HF.out HOK.out).mono ?_; rintro e w1 ⟨v1, rfl, hu1, hb1⟩; obtain ⟨A9, c9, rfl, -, -, -⟩ := hu1.reads; have HB1 := Aside0.mk hb1; clear hu1 hb1))
    go_ret
    rw [HE.out, show wrQ room s q i c = q from if_neg (by rw [HE.out]; decide)]
    exact ⟨rfl, ⟨own, HF.out.below HB1.out, fun k hk => .inl hk⟩, Keep.of_below HB1.out⟩
  obtain ⟨u1, u2, S1, S2, hh, hb, hr, hsep, ho, hg, hlt⟩ := h
  obtain ⟨A2, c2, rfl, hlc2, -⟩ := Kd.R_reads hr
  have hgl := blk_lt hh
  have q0 : w.cell? ⟨g, 0, none⟩ = some (.int .i64 room) := by simp [World.cell?, hh]
  by_cases h2 : room < i + c.length
  · have hce : wErr room (over q s).length i c.length = 50 := by unfold wErr; rw [if_neg (by omega), if_pos h2]
    have HE := Aside0.mk hce
    have hh' := hh
    clear hce hok hC hb hr hsep ho hg hlt hlc2
    go_enter Try.func30, Try.ntmps30
    go_wp2_with (first | (go_at_call 26; refine (bytes_calls HF.out HOK.out).mono ?_; rintro e w1 ⟨v1, rfl, hu1, hb1⟩; obtain ⟨A9, c9, rfl, -, -, -⟩ := hu1.reads; have HB1 := Aside0.mk hb1; have q1 : w1.cell? ⟨g, 0, none⟩ = some (.int .i64 room) := (by simp [World.cell?, (hb1.block g hgl).trans hh']); clear hu1 hb1))
    go_ret
    rw [HE.out, show wrQ room s q i c = q from if_neg (by rw [HE.out]; decide)]
    exact ⟨rfl, ⟨own, HF.out.below HB1.out, fun k hk => .inl hk⟩, Keep.of_below HB1.out⟩
  have hce : wErr room (over q s).length i c.length = 0 := by unfold wErr; rw [if_neg (by omega), if_neg h2]
  have HE := Aside0.mk hce
  have HH := Aside0.mk hh
  have HBf := Aside0.mk hb
  have HR := Aside0.mk hr
  have HSEP := Aside0.mk hsep
  have HO := Aside0.mk ho
  have HLT := Aside0.mk (And.intro hg hlt)
  clear hce hok hC hb hr hsep ho hg hlt hh
  go_enter Try.func30, Try.ntmps30
  go_wp2_with (first | (go_at_call 26; refine (bytes_calls HF.out HOK.out).mono ?_; rintro e w1 ⟨v1, rfl, hu1, hb1⟩; obtain ⟨A9, c9, rfl, -, -, -⟩ := hu1.reads; have HB1 := Aside0.mk hb1; have q1 : w1.cell? ⟨g, 0, none⟩ = some (.int .i64 room) := (by simp [World.cell?, (hb1.block g hgl).trans HH.out]); clear hu1 hb1))
  have hz1 := HB1.out.size
  have HF1 := Aside0.mk (show ∀ W, Keep S2 w1.drew W → W.cell? ⟨g, 2, none⟩ = some (.slice A2 q.length c2) from fun W hW => by
    have h := (hW.block g (by show g < w1.heap.size; omega) (fun h => (HO.out g (.inr h)).2 rfl)).trans ((HB1.out.block g hgl).trans HH.out)
    simp [World.cell?, h])
  have HCUR := Aside0.mk (Keep.refl S2 w1.drew)
  have HC1 := Aside0.mk (Kd.C_below HC.out HB1.out)
  clear q0 q1
  have HA2 := Aside0.mk (show ∀ k, (Value.slice A2 q.length c2).ownBlock = some k → S2 k ∧ k < w.heap.size from fun k hk => ⟨HR.out.1 k hk, HLT.out.2 k (HO.out k (.inr (HR.out.1 k hk))).1⟩)
  refine re_start [13] (S2) (by kernel_rfl) (n := 14) (l := #[false, false, false, false, false, false, false, false, false, false, false, false, false, false]) (by kernel_rfl) (by kernel_rfl) ?_
  refine re_take (fuel := 13) 0 rfl (by kernel_rfl) (listed' := #[true, false, false, false, false, false, false, false, false, false, false, false, false, false]) (by kernel_rfl) (fun _ _ _ h => h) (by kernel_rfl) (fun w' hR => by have x0 := HF1.out w' (HCUR.out.trans hR); go_simp; first | done | with_reducible rfl) rfl ?_
  try simp only [Act.put, List.setIfInBounds_toArray, List.set_cons_zero, List.set_cons_succ]
  refine re_take (fuel := 12) 1 rfl (by kernel_rfl) (listed' := #[true, true, false, false, false, false, false, false, false, false, false, false, false, false]) (by kernel_rfl) (fun _ _ _ h => h) (by kernel_rfl) (fun w' hR => by have x0 := HF1.out w' (HCUR.out.trans hR); go_simp; first | done | with_reducible rfl) rfl ?_
  try simp only [Act.put, List.setIfInBounds_toArray, List.set_cons_zero, List.set_cons_succ]
  refine re_take (fuel := 11) 2 rfl (by kernel_rfl) (listed' := #[true, true, true, false, false, false, false, false, false, false, false, false, false, false]) (by kernel_rfl) (fun _ _ _ h => h) (by kernel_rfl) (fun w' hR => by have x0 := HF1.out w' (HCUR.out.trans hR); go_simp; first | done | with_reducible rfl) rfl ?_
  try simp only [Act.put, List.setIfInBounds_toArray, List.set_cons_zero, List.set_cons_succ]
  refine re_take (fuel := 10) 3 rfl (by kernel_rfl) (listed' := #[true, true, true, true, false, false, false, false, false, false, false, false, false, false]) (by kernel_rfl) (fun _ _ _ h => h) (by kernel_rfl) (fun w' hR => by have x0 := HF1.out w' (HCUR.out.trans hR); go_simp; first | done | with_reducible rfl) rfl ?_
  try simp only [Act.put, List.setIfInBounds_toArray, List.set_cons_zero, List.set_cons_succ]
  refine re_take (fuel := 9) 4 rfl (by kernel_rfl) (listed' := #[true, true, true, true, true, false, false, false, false, false, false, false, false, false]) (by kernel_rfl) (fun _ _ _ h => h) (by kernel_rfl) (fun w' hR => by have x0 := HF1.out w' (HCUR.out.trans hR); go_simp; first | done | with_reducible rfl) rfl ?_
  try simp only [Act.put, List.setIfInBounds_toArray, List.set_cons_zero, List.set_cons_succ]
  refine re_take (fuel := 8) 5 rfl (by kernel_rfl) (listed' := #[true, true, true, true, true, true, false, false, false, false, false, false, false, false]) (by kernel_rfl) (fun _ _ _ h => h) (by kernel_rfl) (fun w' hR => by have x0 := HF1.out w' (HCUR.out.trans hR); go_simp; first | done | with_reducible rfl) rfl ?_
  try simp only [Act.put, List.setIfInBounds_toArray, List.set_cons_zero, List.set_cons_succ]
  refine re_take (fuel := 7) 6 rfl (by kernel_rfl) (listed' := #[true, true, true, true, true, true, true, false, false, false, false, false, false, false]) (by kernel_rfl) (fun _ _ _ h => h) (by kernel_rfl) (fun w' hR => by have x0 := HF1.out w' (HCUR.out.trans hR); go_simp; first | done | with_reducible rfl) rfl ?_
  try simp only [Act.put, List.setIfInBounds_toArray, List.set_cons_zero, List.set_cons_succ]
  refine re_step (fuel := 6) 7 rfl (by kernel_rfl) (listed' := #[true, true, true, true, true, true, true, true, false, false, false, false, false, false]) (by kernel_rfl) (by kernel_rfl) (fun K' hK => ?_)
  go_wp2_with (first | (go_at_call 49; refine (clone_calls A cap c _ (Kd.C_drew HC1.out) (by omega)).mono ?_; rintro e w2 ⟨v2, rfl, ho2, hb2⟩; obtain ⟨A3, c3, rfl, -, -⟩ := Kd.R_reads ho2; have HO2 := Aside0.mk ho2; have HB2 := Aside0.mk hb2; have HCUR := Aside0.mk (HCUR.out.trans (Keep.of_below HB2.out)); clear ho2 hb2))
  refine hK.out _ _ (Keep.of_below HB2.out) ?_
  clear hK K'
  try simp only [Act.put, List.setIfInBounds_toArray, List.set_cons_zero, List.set_cons_succ]
  refine re_take (fuel := 5) 8 rfl (by kernel_rfl) (listed' := #[true, true, true, true, true, true, true, true, true, false, false, false, false, false]) (by kernel_rfl) (fun _ _ _ h => h) (by kernel_rfl) (fun w' hR => by have x0 := HF1.out w' (HCUR.out.trans hR); go_simp; first | done | with_reducible rfl) rfl ?_
  try simp only [Act.put, List.setIfInBounds_toArray, List.set_cons_zero, List.set_cons_succ]
  refine re_step (fuel := 4) 9 rfl (by kernel_rfl) (listed' := #[true, true, true, true, true, true, true, true, true, true, false, false, false, false]) (by kernel_rfl) (by kernel_rfl) (fun K' hK => ?_)
  (go_wp2_with fail); have HAL := Aside0.mk (Keep.of_below (S := S2) ((Below.refl w2.heap.size w2).alloc (Nat.le_refl _) (.cells #[.int .i64 i, .slice A3 c.length c3] 98))); have HCUR := Aside0.mk (HCUR.out.trans HAL.out)
  refine hK.out _ _ HAL.out ?_
  clear hK K'
  try simp only [Act.put, List.setIfInBounds_toArray, List.set_cons_zero, List.set_cons_succ]
  refine re_step (fuel := 3) 10 rfl (by kernel_rfl) (listed' := #[true, true, true, true, true, true, true, true, true, true, true, false, false, false]) (by kernel_rfl) (by kernel_rfl) (fun K' hK => ?_)
  refine R_append_wp kW (W := w2) 0 (.tmp 34) (.tmp 39) 78 98 (.agg #[.int .i64 0, .slice none 0 0]) 32 rfl Try.underlying78 infoW rfl (by decide) (by decide) (.slice A2 q.length c2) q (i, c) [.int .i64 i, .slice A3 c.length c3] (fun k => S2 k ∨ w1.heap.size ≤ k) (fun k => w1.heap.size ≤ k) rfl rfl ⟨[_], [_], rfl, rfl, _, rfl, Kd.R_mono (Kd.R_lower (Kd.R_bound HO2.out) (Nat.zero_le _)) (fun k hk => hk.2.1)⟩ (fun k hk => ⟨.inr hk, fun e => by have := HA2.out k e.symm; omega⟩) (fun k hk => .inr (Nat.le_trans HB2.out.size hk)) (Kd.R_mono (Kd.R_step (Kd.R_below HR.out HB1.out) (fun k _ hk => HB2.out.block k hk)) (fun k hk => .inl hk)) (Nat.zero_le _) (by omega) ?_; intro v3 w3 hr3 hg3 hg3' hat3; obtain ⟨A4, c4, rfl, -, -⟩ := Kd.R_reads hr3; have HG3 := Aside0.mk (grown_keep (S := S2) hg3' (fun k hk => (HA2.out k hk).1)); have HR3 := Aside0.mk hr3; have HCUR := Aside0.mk (HCUR.out.trans HG3.out); clear hr3 hg3 hg3' hat3
  refine hK.out _ _ HG3.out ?_
  clear hK K'
  try simp only [Act.put, List.setIfInBounds_toArray, List.set_cons_zero, List.set_cons_succ]
  refine re_take (fuel := 2) 11 rfl (by kernel_rfl) (listed' := #[true, true, true, true, true, true, true, true, true, true, true, true, false, false]) (by kernel_rfl) (fun _ _ _ h => h) (by kernel_rfl) (fun w' hR => by have x0 := HF1.out w' (HCUR.out.trans hR); go_simp; first | done | with_reducible rfl) rfl ?_
  try simp only [Act.put, List.setIfInBounds_toArray, List.set_cons_zero, List.set_cons_succ]
  refine re_take (fuel := 1) 12 rfl (by kernel_rfl) (listed' := #[true, true, true, true, true, true, true, true, true, true, true, true, true, false]) (by kernel_rfl) (fun _ _ _ h => h) (by kernel_rfl) (fun w' hR => by have x0 := HF1.out w' (HCUR.out.trans hR); go_simp; first | done | with_reducible rfl) rfl ?_
  try simp only [Act.put, List.setIfInBounds_toArray, List.set_cons_zero, List.set_cons_succ]
  refine re_free (fuel := 0) 13 rfl (by kernel_rfl) (listed' := #[true, true, true, true, true, true, true, true, true, true, true, true, true, true]) (by kernel_rfl) (by kernel_rfl) (fun K' hK => ?_)
  have hh3 := (HCUR.out.block g (by show g < w1.heap.size; omega) (fun h => (HO.out g (.inr h)).2 rfl)).trans ((HB1.out.block g hgl).trans HH.out); have hfz := blk_frozen hh3 2; have hx3 : w3.cell? ⟨g, 2, none⟩ = some (.slice A2 q.length c2) := (by simp [World.cell?, hh3]); have HH3 := Aside0.mk hh3; clear hh3; go_wp2_with fail
  refine hK.out _ _ trivial ?_
  clear hK K'
  try simp only [Act.put, List.setIfInBounds_toArray, List.set_cons_zero, List.set_cons_succ]
  refine re_done (by kernel_rfl) ?_
  go_wp2
  go_ret
  rw [HE.out, show wrQ room s q i c = q ++ [(i, c)] from if_pos HE.out]
  obtain ⟨hg, hlt⟩ := HLT.out
  have hz3 := HCUR.out.size
  have hz1' : w1.drew.heap.size = w1.heap.size := rfl
  have hK3 : Keep S2 w w3 := (Keep.of_below HB1.out).trans ((Keep.refl S2 w1).drew.trans HCUR.out)
  have hres := heap_setCell_same w3 g 2 _ 80 (.slice A4 (q.length + 1) c4) HH3.out
  have hR3 := HR3.out
  rw [show (q ++ [(i, c)]).length = q.length + 1 by simp] at hR3
  have hown : ∀ k, S1 k ∨ S2 k → own k ∧ k ≠ g := HO.out
  refine ⟨rfl, ⟨fun k => own k ∨ w1.heap.size ≤ k ∧ k < w3.heap.size, ⟨u1, _, S1, fun k => S2 k ∨ w1.heap.size ≤ k ∧ k < w3.heap.size, hres, ?_, ?_, fun k h1 h2 => ?_, fun k hk => ?_, .inl hg, fun k hk => ?_⟩, fun k hk => hk.imp id (fun h => by omega)⟩, ?_⟩
  · refine HBf.out.step (fun k hk hl => ?_)
    rw [Below.heap_setCell _ _ _ _ (by show k ≠ g; exact (hown k (.inl hk)).2)]
    exact hK3.block k hl (HSEP.out k hk)
  · refine Kd.R_mono (Kd.R_far (p := ⟨g, 2, none⟩) (Kd.R_mono (ok' := fun k => (S2 k ∨ w1.heap.size ≤ k) ∧ k < w3.heap.size) (Kd.R_bound hR3) (fun k hk => ⟨hk.1, hk.2.2.1⟩)) (fun k hk => ?_) _) (fun k hk => ?_)
    · show k ≠ g
      rcases hk.1 with h | h
      · exact (hown k (.inr h)).2
      · omega
    · rcases hk with ⟨h | h, h'⟩
      · exact .inl h
      · exact .inr ⟨h, h'⟩
  · rcases h2 with h2 | h2
    · exact HSEP.out k h1 h2
    · have := hlt k (hown k (.inl h1)).1
      omega
  · rcases hk with hk | hk | hk
    · exact ⟨.inl (hown k (.inl hk)).1, (hown k (.inl hk)).2⟩
    · exact ⟨.inl (hown k (.inr hk)).1, (hown k (.inr hk)).2⟩
    · exact ⟨.inr hk, by omega⟩
  · rw [World.size_setCell]
    rcases hk with hk | hk
    · have := hlt k hk; omega
    · exact hk.2
  · exact (hK3.mono (fun k _ hk => (hown k (.inr hk)).1)).setCell _ _ (fun _ => hg)
end
end Go.Proofs.Ytfcpnjoiloahcaa.Fd
namespace Go.Proofs.Ytfcpnjoiloahcaa.Fd
open Go.RowKit Go.Proofs.YtfcpnjoiloahcaaW.PrintWords Go.Proofs.YtfcpnjoiloahcaaW.PrintLast Go.Proofs.YtfcpnjoiloahcaaW.PrintMore Go.Proofs.Ytfcpnjoiloahcaa.B Go.Proofs.Ytfcpnjoiloahcaa.Fs Go.Proofs.Ytfcpnjoiloahcaa.Fc Go.Proofs.Ytfcpnjoiloahcaa.Fw Go.Proofs.Ytfcpnjoiloahcaa.R
set_option linter.unusedVariables false
set_option linter.unusedSimpArgs false
section
variable {w : World} {g : Nat} {own : Nat → Prop} {room : Int} {s : List Int} {q : List (Int × List Int)}
set_option maxHeartbeats 4000000 in
set_option maxRecDepth 100000 in
theorem crash_calls (h : FF w g own room s q) (hok : FOk room s q) (B : Option Addr) (kc : Nat) (keep : List Int) (hK : (Kd.int .i64).C w B keep.length keep) (hB : ∀ a, B = some a → 0 < keep.length → ¬ own a.block ∧ a.block < w.heap.size) (hkr : ∀ x ∈ keep, -9223372036854775808 ≤ x ∧ x ≤ 9223372036854775807) :
    Calls Try.prog 21 #[.pointer (some ⟨g, 0, none⟩), .slice B keep.length kc] w fun e w' => e = .returned (.tuple #[]) ∧
      (∃ own', FF w' g own' room (fallen keep 0 q s) [] ∧ ∀ k, own' k → own k ∨ w.heap.size ≤ k) ∧ Keep own w w' := by
  obtain ⟨v1, v2, S1, S2, hh, hb, hr, hsep, ho, hg, hlt⟩ := h
  obtain ⟨A2, c2, rfl, hlc2, hC2⟩ := Kd.R_reads hr
  have hql := hC2.2.1
  have hkl := hK.2.1
  have hgl := blk_lt hh
  have q2 : w.cell? ⟨g, 2, none⟩ = some (.slice A2 q.length c2) := by simp [World.cell?, hh]
  have HOK := Aside0.mk hok
  have HK := Aside0.mk hK
  have HKB := Aside0.mk hB
  have HKR := Aside0.mk hkr
  have HH := Aside0.mk hh
  have HBf := Aside0.mk (hb.mono (S' := fun k => S1 k ∨ w.heap.size ≤ k) (fun k hk _ => .inl hk))
  have HR := Aside0.mk hr
  have HSEP := Aside0.mk hsep
  have HO := Aside0.mk ho
  have HLT := Aside0.mk (And.intro hg hlt)
  have HKP := Aside0.mk (Keep.refl (fun k => k = g ∨ S1 k) w)
  clear hok hb hr hsep ho hg hlt hh hK hB hkr hC2
  go_enter Try.func21, Try.ntmps21
  go_wp2_with fail
  clear q2
  go_loopw [14] (fun vi wr => ∃ (k : Nat) (v1 : Value), k ≤ q.length ∧ vi = .int .i64 k ∧ Aside0 (wr.heap[g]? = some (.cells #[.int .i64 room, v1, .slice A2 q.length c2] 80 (0, 0))) ∧ Aside0 (Buf .u8 5 wr (fun k => S1 k ∨ w.heap.size ≤ k) v1 (fallen keep 0 (q.take k) s)) ∧ Aside0 (Keep (fun k => k = g ∨ S1 k) w wr)) (fun vi _ => q.length - (intOf vi).toNat)
  case atStart => exact ⟨0, v1, by omega, rfl, HH, HBf, HKP⟩
  case round =>
    clear HH HBf HKP
    obtain ⟨k, v1, hk, rfl, HH, HBf, HKP⟩ := hrel
    have hzs : w.heap.size ≤ wr.heap.size := HKP.out.size
    by_cases hlt : k < q.length
    · obtain ⟨⟨i, c⟩, hp⟩ : ∃ p, q[k]? = some p := ⟨_, List.getElem?_eq_getElem hlt⟩
      have HR1 := Aside0.mk (Kd.R_step (w1 := wr) HR.out (fun j hj hl => HKP.out.block j hl (fun h => h.elim (fun e => (HO.out j (.inr hj)).2 e) (fun h => HSEP.out j h hj))))
      obtain ⟨ad, A, c', rfl, hs2, hadl, q2, q3, hcc, hCc, hAc⟩ := W_get HR1.out hp
      have hpt := HOK.out.crashPart keep k
      obtain ⟨hi0, hi1, hi2, hby⟩ := HOK.out.ok.get hp
      simp only at hi0 hi1 hi2 hby
      have hr1 := HOK.out.r1
      have hbnd : i + c.length ≤ 16777216 := by omega
      have hbn2 : (fallen keep 0 (q.take k) s).length ≤ 16777216 := by omega
      have HT := Aside0.mk (fallen_take (keep := keep) (b := s) hp)
      have HCc := Aside0.mk hCc
      have HAc := Aside0.mk hAc
      have HI := Aside0.mk (And.intro hs2 hadl)
      clear hp hCc hAc hby hpt hi2 hr1 hs2 hadl
      obtain ⟨W, hW⟩ : ∃ W, W = wr.alloc (.cells #[.int .i64 i, .slice A c.length c'] 98) := ⟨_, rfl⟩
      have hws : W.heap.size = wr.heap.size + 1 := by rw [hW]; exact World.size_alloc _ _
      have hwk : Below wr.heap.size wr W := by rw [hW]; exact (Below.refl _ _).alloc (Nat.le_refl _) _
      have hwn : W.heap[wr.heap.size]? = some (.cells #[.int .i64 i, .slice A c.length c'] 98 (0, 0)) := by rw [hW]; exact heap_alloc_new _ _
      have HWK := Aside0.mk hwk
      have HWN := Aside0.mk hwn
      clear hwk hwn
      by_cases hkk : k < keep.length
      · obtain ⟨x, hx⟩ : ∃ x, keep[k]? = some x := ⟨_, List.getElem?_eq_getElem hkk⟩
        obtain ⟨bd, rfl⟩ := C_some HK.out (by omega)
        have hxr := HKR.out x (List.mem_of_getElem? hx)
        have hcx : wr.cell? (bd.add k) = some (.int .i64 x) := C_cell (C_blk HK.out (fun a e => HKP.out.block a.block (HKB.out a e (by omega)).2 (fun h => (HKB.out a e (by omega)).1 (h.elim (fun e => by rw [e]; exact HLT.out.1) (fun h => (HO.out _ (.inl h)).1))))) hx
        have hkx : kept keep k c.length = (max 0 (min x c.length)).toNat := by unfold kept; rw [hx]
        have HKX := Aside0.mk hkx
        clear hkx hx
        go_wp2_with fail
        rw [← hW]
        clear hW
        have HF1 := Aside0.mk (show ∀ W', Keep (fun _ => False) W W' → W'.cell? ⟨wr.heap.size, 1, none⟩ = some (.slice A c.length c') ∧ W'.cell? (bd.add k) = some (.int .i64 x) from fun W' hW' => by
          have h := (hW'.block wr.heap.size (by omega) (fun h => h)).trans HWN.out
          have hb : (bd.add k).block < wr.heap.size := World.block_lt_of_cell? wr _ hcx
          exact ⟨by simp [World.cell?, h], (World.cell?_of_block ((hW'.block _ (by omega) (fun h => h)).trans (HWK.out.block _ hb))).trans hcx⟩)
        have HCUR := Aside0.mk (Keep.drew (Keep.refl (fun _ => False) W))
        clear q2 q3 hcx
        refine rk_start (fun _ => False) (by kernel_rfl) (n := 10) (l := #[false, false, false, false, false, false, false, false, false, false]) (by kernel_rfl) (by kernel_rfl) ?_
        refine rk_take (fuel := 9) 0 rfl (by kernel_rfl) (listed' := #[true, false, false, false, false, false, false, false, false, false]) (by kernel_rfl) (fun _ _ _ h => h) (by kernel_rfl) (fun w' hR => by obtain ⟨x0, x1⟩ := HF1.out w' (HCUR.out.trans hR); go_simp; first | done | with_reducible rfl) rfl ?_
        try simp only [Act.put, List.setIfInBounds_toArray, List.set_cons_zero, List.set_cons_succ]
        refine rk_take (fuel := 8) 1 rfl (by kernel_rfl) (listed' := #[true, true, false, false, false, false, false, false, false, false]) (by kernel_rfl) (fun _ _ _ h => h) (by kernel_rfl) (fun w' hR => by obtain ⟨x0, x1⟩ := HF1.out w' (HCUR.out.trans hR); go_simp; first | done | with_reducible rfl) rfl ?_
        try simp only [Act.put, List.setIfInBounds_toArray, List.set_cons_zero, List.set_cons_succ]
        refine rk_take (fuel := 7) 2 rfl (by kernel_rfl) (listed' := #[true, true, true, false, false, false, false, false, false, false]) (by kernel_rfl) (fun _ _ _ h => h) (by kernel_rfl) (fun w' hR => by obtain ⟨x0, x1⟩ := HF1.out w' (HCUR.out.trans hR); go_simp; first | done | with_reducible rfl) rfl ?_
        try simp only [Act.put, List.setIfInBounds_toArray, List.set_cons_zero, List.set_cons_succ]
        refine rk_take (fuel := 6) 3 rfl (by kernel_rfl) (listed' := #[true, true, true, true, false, false, false, false, false, false]) (by kernel_rfl) (fun _ _ _ h => h) (by kernel_rfl) (fun w' hR => by obtain ⟨x0, x1⟩ := HF1.out w' (HCUR.out.trans hR); go_simp; first | done | with_reducible rfl) rfl ?_
        try simp only [Act.put, List.setIfInBounds_toArray, List.set_cons_zero, List.set_cons_succ]
        refine rk_take (fuel := 5) 4 rfl (by kernel_rfl) (listed' := #[true, true, true, true, true, false, false, false, false, false]) (by kernel_rfl) (fun _ _ _ h => h) (by kernel_rfl) (fun w' hR => by obtain ⟨x0, x1⟩ := HF1.out w' (HCUR.out.trans hR); go_simp; first | done | with_reducible rfl) rfl ?_
        try simp only [Act.put, List.setIfInBounds_toArray, List.set_cons_zero, List.set_cons_succ]
        refine rk_take (fuel := 4) 5 rfl (by kernel_rfl) (listed' := #[true, true, true, true, true, true, false, false, false, false]) (by kernel_rfl) (fun _ _ _ h => h) (by kernel_rfl) (fun w' hR => by obtain ⟨x0, x1⟩ := HF1.out w' (HCUR.out.trans hR); go_simp; first | done | with_reducible rfl) rfl ?_
        try simp only [Act.put, List.setIfInBounds_toArray, List.set_cons_zero, List.set_cons_succ]
        refine rk_take (fuel := 3) 6 rfl (by kernel_rfl) (listed' := #[true, true, true, true, true, true, true, false, false, false]) (by kernel_rfl) (fun _ _ _ h => h) (by kernel_rfl) (fun w' hR => by obtain ⟨x0, x1⟩ := HF1.out w' (HCUR.out.trans hR); go_simp; first | done | with_reducible rfl) rfl ?_
        try simp only [Act.put, List.setIfInBounds_toArray, List.set_cons_zero, List.set_cons_succ]
        refine rk_take (fuel := 2) 7 rfl (by kernel_rfl) (listed' := #[true, true, true, true, true, true, true, true, false, false]) (by kernel_rfl) (fun _ _ _ h => h) (by kernel_rfl) (fun w' hR => by obtain ⟨x0, x1⟩ := HF1.out w' (HCUR.out.trans hR); go_simp; first | done | with_reducible rfl) rfl ?_
        try simp only [Act.put, List.setIfInBounds_toArray, List.set_cons_zero, List.set_cons_succ]
        refine rk_take (fuel := 1) 8 rfl (by kernel_rfl) (listed' := #[true, true, true, true, true, true, true, true, true, false]) (by kernel_rfl) (fun _ _ _ h => h) (by kernel_rfl) (fun w' hR => by obtain ⟨x0, x1⟩ := HF1.out w' (HCUR.out.trans hR); go_simp; first | done | with_reducible rfl) rfl ?_
        try simp only [Act.put, List.setIfInBounds_toArray, List.set_cons_zero, List.set_cons_succ]
        refine rk_take (fuel := 0) 9 rfl (by kernel_rfl) (listed' := #[true, true, true, true, true, true, true, true, true, true]) (by kernel_rfl) (fun _ _ _ h => h) (by kernel_rfl) (fun w' hR => by obtain ⟨x0, x1⟩ := HF1.out w' (HCUR.out.trans hR); go_simp; first | done | with_reducible rfl) rfl ?_
        try simp only [Act.put, List.setIfInBounds_toArray, List.set_cons_zero, List.set_cons_succ]
        refine rk_done (by kernel_rfl) ?_
        obtain ⟨kn, hkn⟩ : ∃ kn, kn = kept keep k c.length := ⟨_, rfl⟩
        have hT : (if 0 < (if (c.length : Int) < x then (c.length : Int) else x) then (if (c.length : Int) < x then (c.length : Int) else x) else 0) = (kn : Int) := by
          rw [hkn, HKX.out]
          split <;> split at * <;> omega
        have hkc : kn ≤ c.length := by rw [hkn]; exact kept_le _ _ _
        rw [← hkn] at HT
        rw [hT]
        generalize (if (c.length : Int) < x then (c.length : Int) else x) = zz
        clear hT hxr HKX HF1 hkn
        by_cases hk0 : 0 < kn
        · obtain ⟨A5, c5, rfl, hlc5, -, -⟩ := HBf.out.reads
          have hA5 := HBf.out.own
          have hg5 : (Value.slice A5 (fallen keep 0 (q.take k) s).length c5).ownBlock ≠ some g := fun e => by
            rcases (hA5 g e).1 with h | h
            · exact (HO.out g (.inl h)).2 rfl
            · omega
          have hw5 : (Value.slice A5 (fallen keep 0 (q.take k) s).length c5).ownBlock ≠ some wr.heap.size := fun e => by
            have := (hA5 _ e).2
            omega
          have HA5 := Aside0.mk hA5
          have HF2 := Aside0.mk (show ∀ W', Keep (fun j => (Value.slice A5 (fallen keep 0 (q.take k) s).length c5).ownBlock = some j) W.drew W' → W'.cell? ⟨g, 1, none⟩ = some (.slice A5 (fallen keep 0 (q.take k) s).length c5) ∧ W'.cell? ⟨wr.heap.size, 0, none⟩ = some (.int .i64 i) ∧ W'.cell? ⟨wr.heap.size, 1, none⟩ = some (.slice A c.length c') from fun W' hW' => by
            have h := (hW'.block wr.heap.size (by show wr.heap.size < W.heap.size; omega) hw5).trans HWN.out
            have h2 := (hW'.block g (by show g < W.heap.size; omega) hg5).trans ((HWK.out.block g (by omega)).trans HH.out)
            exact ⟨by simp [World.cell?, h2], by simp [World.cell?, h], by simp [World.cell?, h]⟩)
          have HCUR := Aside0.mk ((Keep.refl (fun j => (Value.slice A5 (fallen keep 0 (q.take k) s).length c5).ownBlock = some j) W.drew).drew)
          obtain ⟨i5, hi5, -, hi5s, -⟩ := info_ex infoU8
          have hrun : ∀ W : World, (Instr.slice 24 (.slice A c.length c') none (some (.int .i64 (kn : Int))) none).run Try.prog W = .ok (.slice A kn c') W := fun W => by simpa using cut_to (P := Try.prog) 24 5 .i64 Try.underlying24 hi5 A c.length c' (kn : Int) (by omega) (by omega) hcc W
          have hCt : kU8.C wr A (c.take kn).length (c.take kn) := by
            exact Kd.C_take HCc.out hkc
          have HCT := Aside0.mk hCt
          have hAx : ∀ a, A = some a → ¬ (Value.slice A5 (fallen keep 0 (q.take k) s).length c5).ownBlock = some a.block ∧ a.block < W.heap.size := fun a ha => by
            obtain ⟨h1, h2⟩ := HAc.out a ha
            refine ⟨fun e => ?_, by omega⟩
            rcases (HA5.out _ e).1 with h | h
            · exact HSEP.out _ h h1
            · have := HLT.out.2 _ (HO.out _ (.inr h1)).1
              omega
          have HAX := Aside0.mk hAx
          have hgW : g < W.heap.size := by omega
          clear hA5 hCt hAx hi5 hi5s
          go_wp2_with fail
          refine re_start [15] (fun j => (Value.slice A5 (fallen keep 0 (q.take k) s).length c5).ownBlock = some j) (by kernel_rfl) (n := 16) (l := #[false, false, false, false, false, false, false, false, false, false, false, false, false, false, false, false]) (by kernel_rfl) (by kernel_rfl) ?_
          refine re_take (fuel := 15) 0 rfl (by kernel_rfl) (listed' := #[true, false, false, false, false, false, false, false, false, false, false, false, false, false, false, false]) (by kernel_rfl) (fun _ _ _ h => h) (by kernel_rfl) (fun w' hR => by obtain ⟨x0, x1, x2⟩ := HF2.out w' (HCUR.out.trans hR); go_simp; first | done | with_reducible rfl) rfl ?_
          try simp only [Act.put, List.setIfInBounds_toArray, List.set_cons_zero, List.set_cons_succ]
          refine re_take (fuel := 14) 1 rfl (by kernel_rfl) (listed' := #[true, true, false, false, false, false, false, false, false, false, false, false, false, false, false, false]) (by kernel_rfl) (fun _ _ _ h => h) (by kernel_rfl) (fun w' hR => by obtain ⟨x0, x1, x2⟩ := HF2.out w' (HCUR.out.trans hR); go_simp; first | done | with_reducible rfl) rfl ?_
          try simp only [Act.put, List.setIfInBounds_toArray, List.set_cons_zero, List.set_cons_succ]
          refine re_take (fuel := 13) 2 rfl (by kernel_rfl) (listed' := #[true, true, true, false, false, false, false, false, false, false, false, false, false, false, false, false]) (by kernel_rfl) (fun _ _ _ h => h) (by kernel_rfl) (fun w' hR => by obtain ⟨x0, x1, x2⟩ := HF2.out w' (HCUR.out.trans hR); go_simp; first | done | with_reducible rfl) rfl ?_
          try simp only [Act.put, List.setIfInBounds_toArray, List.set_cons_zero, List.set_cons_succ]
          refine re_take (fuel := 12) 3 rfl (by kernel_rfl) (listed' := #[true, true, true, true, false, false, false, false, false, false, false, false, false, false, false, false]) (by kernel_rfl) (fun _ _ _ h => h) (by kernel_rfl) (fun w' hR => by obtain ⟨x0, x1, x2⟩ := HF2.out w' (HCUR.out.trans hR); go_simp; first | done | with_reducible rfl) rfl ?_
          try simp only [Act.put, List.setIfInBounds_toArray, List.set_cons_zero, List.set_cons_succ]
          refine re_take (fuel := 11) 4 rfl (by kernel_rfl) (listed' := #[true, true, true, true, true, false, false, false, false, false, false, false, false, false, false, false]) (by kernel_rfl) (fun _ _ _ h => h) (by kernel_rfl) (fun w' hR => by obtain ⟨x0, x1, x2⟩ := HF2.out w' (HCUR.out.trans hR); go_simp; first | done | with_reducible rfl) rfl ?_
          try simp only [Act.put, List.setIfInBounds_toArray, List.set_cons_zero, List.set_cons_succ]
          refine re_take (fuel := 10) 5 rfl (by kernel_rfl) (listed' := #[true, true, true, true, true, true, false, false, false, false, false, false, false, false, false, false]) (by kernel_rfl) (fun _ _ _ h => h) (by kernel_rfl) (fun w' hR => by obtain ⟨x0, x1, x2⟩ := HF2.out w' (HCUR.out.trans hR); go_simp; first | done | with_reducible rfl) rfl ?_
          try simp only [Act.put, List.setIfInBounds_toArray, List.set_cons_zero, List.set_cons_succ]
          refine re_take (fuel := 9) 6 rfl (by kernel_rfl) (listed' := #[true, true, true, true, true, true, true, false, false, false, false, false, false, false, false, false]) (by kernel_rfl) (fun _ _ _ h => h) (by kernel_rfl) (fun w' hR => by obtain ⟨x0, x1, x2⟩ := HF2.out w' (HCUR.out.trans hR); go_simp; first | done | with_reducible rfl) rfl ?_
          try simp only [Act.put, List.setIfInBounds_toArray, List.set_cons_zero, List.set_cons_succ]
          refine re_take (fuel := 8) 7 rfl (by kernel_rfl) (listed' := #[true, true, true, true, true, true, true, true, false, false, false, false, false, false, false, false]) (by kernel_rfl) (fun _ _ _ h => h) (by kernel_rfl) (fun w' hR => by obtain ⟨x0, x1, x2⟩ := HF2.out w' (HCUR.out.trans hR); go_simp; first | done | with_reducible rfl) rfl ?_
          try simp only [Act.put, List.setIfInBounds_toArray, List.set_cons_zero, List.set_cons_succ]
          refine re_take (fuel := 7) 8 rfl (by kernel_rfl) (listed' := #[true, true, true, true, true, true, true, true, true, false, false, false, false, false, false, false]) (by kernel_rfl) (fun _ _ _ h => h) (by kernel_rfl) (fun w' hR => by obtain ⟨x0, x1, x2⟩ := HF2.out w' (HCUR.out.trans hR); go_simp; first | done | with_reducible rfl) rfl ?_
          try simp only [Act.put, List.setIfInBounds_toArray, List.set_cons_zero, List.set_cons_succ]
          refine re_take (fuel := 6) 9 rfl (by kernel_rfl) (listed' := #[true, true, true, true, true, true, true, true, true, true, false, false, false, false, false, false]) (by kernel_rfl) (fun _ _ _ h => h) (by kernel_rfl) (fun w' hR => by obtain ⟨x0, x1, x2⟩ := HF2.out w' (HCUR.out.trans hR); go_simp; first | done | with_reducible rfl) rfl ?_
          try simp only [Act.put, List.setIfInBounds_toArray, List.set_cons_zero, List.set_cons_succ]
          refine re_take (fuel := 5) 10 rfl (by kernel_rfl) (listed' := #[true, true, true, true, true, true, true, true, true, true, true, false, false, false, false, false]) (by kernel_rfl) (fun _ _ _ h => h) (by kernel_rfl) (fun w' hR => by obtain ⟨x0, x1, x2⟩ := HF2.out w' (HCUR.out.trans hR); go_simp; first | done | with_reducible rfl) rfl ?_
          try simp only [Act.put, List.setIfInBounds_toArray, List.set_cons_zero, List.set_cons_succ]
          refine re_take (fuel := 4) 11 rfl (by kernel_rfl) (listed' := #[true, true, true, true, true, true, true, true, true, true, true, true, false, false, false, false]) (by kernel_rfl) (fun _ _ _ h => h) (by kernel_rfl) (fun w' hR => by obtain ⟨x0, x1, x2⟩ := HF2.out w' (HCUR.out.trans hR); go_simp; first | done | with_reducible rfl) rfl ?_
          try simp only [Act.put, List.setIfInBounds_toArray, List.set_cons_zero, List.set_cons_succ]
          refine re_step (fuel := 3) 12 rfl (by kernel_rfl) (listed' := #[true, true, true, true, true, true, true, true, true, true, true, true, true, false, false, false]) (by kernel_rfl) (by kernel_rfl) (fun K' hK => ?_)
          go_wp2_with (first | (go_at_call 47; refine (put_any _ (fun j => (Value.slice A5 (fallen keep 0 (q.take k) s).length c5).ownBlock = some j) (fallen keep 0 (q.take k) s) i A c' (c.take kn) kn (by rw [List.length_take]; omega) _ ((HBf.out.exact.below HWK.out).step (w' := W.drew.drew) (fun _ _ _ => rfl)) (Kd.C_drew (Kd.C_drew (Kd.C_below HCT.out HWK.out))) HAX.out hi0 (by rw [List.length_take]; omega) hbn2 (Or.inr (by rw [List.length_take]; omega))).mono ?_; rintro e w2 ⟨v2, rfl, hb2, hk2⟩; obtain ⟨A6, c6, rfl, -, -, -⟩ := hb2.reads; have HB2 := Aside0.mk hb2; have HK2 := Aside0.mk hk2; clear hb2 hk2))
          refine hK.out _ _ HK2.out ?_
          clear hK K'
          try simp only [Act.put, List.setIfInBounds_toArray, List.set_cons_zero, List.set_cons_succ]
          refine re_take (fuel := 2) 13 rfl (by kernel_rfl) (listed' := #[true, true, true, true, true, true, true, true, true, true, true, true, true, true, false, false]) (by kernel_rfl) (fun _ _ _ h => h) (by kernel_rfl) (fun w' hR => by skip; go_simp; first | done | with_reducible rfl) rfl ?_
          try simp only [Act.put, List.setIfInBounds_toArray, List.set_cons_zero, List.set_cons_succ]
          refine re_take (fuel := 1) 14 rfl (by kernel_rfl) (listed' := #[true, true, true, true, true, true, true, true, true, true, true, true, true, true, true, false]) (by kernel_rfl) (fun _ _ _ h => h) (by kernel_rfl) (fun w' hR => by skip; go_simp; first | done | with_reducible rfl) rfl ?_
          try simp only [Act.put, List.setIfInBounds_toArray, List.set_cons_zero, List.set_cons_succ]
          refine re_free (fuel := 0) 15 rfl (by kernel_rfl) (listed' := #[true, true, true, true, true, true, true, true, true, true, true, true, true, true, true, true]) (by kernel_rfl) (by kernel_rfl) (fun K' hK => ?_)
          have hh3 := (HK2.out.block g hgW hg5).trans ((HWK.out.block g (by omega)).trans HH.out); have hfz := blk_frozen hh3 1; have hx3 : w2.cell? ⟨g, 1, none⟩ = some (.slice A5 (fallen keep 0 (q.take k) s).length c5) := (by simp [World.cell?, hh3]); have HH3 := Aside0.mk hh3; clear hh3; go_wp2_with fail
          refine hK.out _ _ trivial ?_
          clear hK K'
          try simp only [Act.put, List.setIfInBounds_toArray, List.set_cons_zero, List.set_cons_succ]
          refine re_done (by kernel_rfl) ?_
          go_wp2_with fail
          go_roundw
          case rel =>
            refine ⟨k + 1, _, by omega, by go_num, ⟨heap_setCell_same w2 g 1 _ 80 _ HH3.out⟩, ⟨?_⟩, ⟨?_⟩⟩
            · rw [HT.out, if_pos hk0]
              have hb := (HB2.out.exact.mono (S' := fun j => (S1 j ∨ w.heap.size ≤ j) ∧ j ≠ g) (fun j hj _ => ?_)).step (w' := w2.setCell ⟨g, 1, none⟩ (.slice A6 (laid (fallen keep 0 (q.take k) s) i.toNat (c.take kn)).length c6)) (fun j hj _ => Below.heap_setCell _ _ _ _ hj.2)
              · exact hb.mono (fun j hj _ => hj.1)
              · rcases (HB2.out.own j hj).1 with h | h
                · exact ⟨(HA5.out j h).1, fun e => hg5 (by rw [h, e])⟩
                · have h : W.heap.size ≤ j := h
                  exact ⟨.inr (by omega), by omega⟩
            · exact ((HKP.out.trans (Keep.of_below HWK.out)).drew.drew.then (HK2.out) (fun j hj h => (HA5.out j h).1.elim .inr (fun h => by omega))).setCell _ _ (fun _ => .inl rfl)
          case measure => simp [intOf]; omega
        · have h0k : kn = 0 := by omega
          subst h0k
          go_wp2
          go_roundw
          case rel =>
            refine ⟨k + 1, v1, by omega, by go_num, ⟨(HWK.out.block g (by omega)).trans HH.out⟩, ⟨?_⟩, ⟨(HKP.out.trans (Keep.of_below HWK.out)).drew⟩⟩
            rw [HT.out, if_neg (by omega)]
            exact (HBf.out.below HWK.out).step (fun _ _ _ => rfl)
          case measure => simp [intOf]; omega
      · have hkx : kept keep k c.length = 0 := by unfold kept; rw [List.getElem?_eq_none (by omega)]
        rw [hkx] at HT
        clear hkx
        go_wp2_with fail
        rw [← hW]
        clear hW
        go_wp2
        go_roundw
        case rel =>
          refine ⟨k + 1, v1, by omega, by go_num, ⟨(HWK.out.block g (by omega)).trans HH.out⟩, ⟨?_⟩, ⟨HKP.out.trans (Keep.of_below HWK.out)⟩⟩
          rw [HT.out, if_neg (by omega)]
          exact HBf.out.below HWK.out
        case measure => simp [intOf]; omega
    · have hke : k = q.length := by omega
      subst hke
      have hh := HH.out
      have hfz := blk_frozen hh 2
      have hx3 : wr.cell? ⟨g, 2, none⟩ = some (.slice A2 q.length c2) := by simp [World.cell?, hh]
      clear hh
      go_wp2
      first | go_end0 | ((try simp only [Exit.inBlock, Exit.then]); refine bodyPost_ret (results_none rfl _ _ _) rfl ?_)
      rw [List.take_length] at HBf
      have hgo := HLT.out.1
      have hb := HBf.out.exact.mono (S' := fun j => (S1 j ∨ w.heap.size ≤ j) ∧ j < wr.heap.size) (fun j hj hl => ⟨(HBf.out.own j hj).1, hl⟩)
      have hne : ∀ j, ((S1 j ∨ w.heap.size ≤ j) ∧ j < wr.heap.size) → j ≠ g := fun j hj e => by
        rcases hj.1 with h | h
        · exact (HO.out j (.inl h)).2 e
        · omega
      refine ⟨rfl, ⟨fun j => own j ∨ w.heap.size ≤ j ∧ j < wr.heap.size, ⟨_, _, fun j => (S1 j ∨ w.heap.size ≤ j) ∧ j < wr.heap.size, fun _ => False, heap_setCell_same wr g 2 _ 80 _ HH.out, hb.step (fun j hj _ => Below.heap_setCell _ _ _ _ (hne j hj)), Kd.R_nil _ _ _ _ _, fun _ _ h => h, fun j hj => ?_, .inl hgo, fun j hj => ?_⟩, fun j hj => hj.imp id (fun h => h.1)⟩, ?_⟩
      · rcases hj with hj | hj
        · refine ⟨?_, hne j hj⟩
          rcases hj.1 with h | h
          · exact .inl (HO.out j (.inl h)).1
          · exact .inr ⟨h, hj.2⟩
        · exact hj.elim
      · rw [World.size_setCell]
        rcases hj with hj | hj
        · have := HLT.out.2 j hj; omega
        · exact hj.2
      · exact (HKP.out.mono (fun j _ hj => hj.elim (fun e => by rw [e]; exact hgo) (fun h => (HO.out j (.inl h)).1))).setCell _ _ (fun _ => hgo)
end
end Go.Proofs.Ytfcpnjoiloahcaa.Fd
namespace Go.Proofs.Ytfcpnjoiloahcaa.Fd
open Go.RowKit Go.Proofs.YtfcpnjoiloahcaaW.PrintWords Go.Proofs.YtfcpnjoiloahcaaW.PrintLast Go.Proofs.YtfcpnjoiloahcaaW.PrintMore Go.Proofs.Ytfcpnjoiloahcaa.B Go.Proofs.Ytfcpnjoiloahcaa.Fs Go.Proofs.Ytfcpnjoiloahcaa.Fc Go.Proofs.Ytfcpnjoiloahcaa.Fw Go.Proofs.Ytfcpnjoiloahcaa.R
set_option linter.unusedVariables false
set_option linter.unusedSimpArgs false
/-- A file that lies in N's blocks and new ones; since W0 nothing but these was turned. -/
def At (W0 : World) (N : Nat → Prop) (w : World) (g : Nat) (room : Int) (s : List Int) (q : List (Int × List Int)) : Prop :=
  ∃ own, FF w g own room s q ∧ (∀ k, own k → N k ∨ W0.heap.size ≤ k) ∧ Keep N W0 w ∧ FOk room s q
section
variable {W0 w w' : World} {N : Nat → Prop} {g : Nat} {room : Int} {s : List Int} {q : List (Int × List Int)}
theorem At.below (h : At W0 N w g room s q) (hb : Below w.heap.size w w') : At W0 N w' g room s q := by
  obtain ⟨own, h1, h2, h3, h4⟩ := h
  exact ⟨own, h1.below hb, h2, h3.trans (Keep.of_below hb), h4⟩
theorem At.alloc (h : At W0 N w g room s q) (o : Obj) : At W0 N (w.alloc o) g room s q := h.below ((Below.refl _ _).alloc (Nat.le_refl _) o)
theorem At.drew (h : At W0 N w g room s q) : At W0 N w.drew g room s q := h.below (Below.refl _ _).drew
theorem At.keep (h : At W0 N w g room s q) : Keep N W0 w := by
  obtain ⟨own, h1, h2, h3, h4⟩ := h
  exact h3
theorem At.ok (h : At W0 N w g room s q) : FOk room s q := by
  obtain ⟨own, h1, h2, h3, h4⟩ := h
  exact h4
theorem At.next {own own' : Nat → Prop} {s' : List Int} {q' : List (Int × List Int)} (h2 : ∀ k, own k → N k ∨ W0.heap.size ≤ k) (h3 : Keep N W0 w) (hk : Keep own w w') (h5 : FF w' g own' room s' q') (h6 : ∀ k, own' k → own k ∨ w.heap.size ≤ k) (hok : FOk room s' q') : At W0 N w' g room s' q' :=
  ⟨own', h5, fun k hk' => (h6 k hk').elim (h2 k) (fun h => .inr (Nat.le_trans h3.size h)), h3.then hk (fun k hl h => (h2 k h).elim id (fun h => by omega)), hok⟩
/-- From here on: what was made in the meantime stays. -/
theorem At.rebase {wb : World} (h : At W0 N w g room s q) (hb : Below w.heap.size w wb) : At wb (fun k => (N k ∨ W0.heap.size ≤ k) ∧ k < w.heap.size) wb g room s q := by
  obtain ⟨own, h1, h2, h3, h4⟩ := h
  exact ⟨own, h1.below hb, fun k hk => .inl ⟨h2 k hk, h1.lt.2.2 k hk⟩, Keep.refl _ _, h4⟩
/-- Back to what was before. -/
theorem At.back {wb : World} {N' : Nat → Prop} (h : At wb N' w g room s q) (hN : ∀ k, N' k → N k ∨ W0.heap.size ≤ k) (hb : Keep N W0 wb) : At W0 N w g room s q := by
  obtain ⟨own, h1, h2, h3, h4⟩ := h
  exact ⟨own, h1, fun k hk => (h2 k hk).elim (hN k) (fun h => .inr (Nat.le_trans hb.size h)), hb.then h3 (fun k hl h => (hN k h).elim id (fun h => by omega)), h4⟩
theorem at_bytes (h : At W0 N w g room s q) :
    Calls Try.prog 26 #[.pointer (some ⟨g, 0, none⟩)] w fun e w' => ∃ A c, e = .returned (.slice A (over q s).length c) ∧ kU8.C w' A (over q s).length (over q s) ∧ (∀ a, A = some a → w.heap.size ≤ a.block ∧ a.block < w'.heap.size) ∧ Below w.heap.size w w' ∧ At W0 N w' g room s q := by
  obtain ⟨own, h1, h2, h3, h4⟩ := h
  refine (bytes_calls h1 h4).mono ?_
  rintro e w' ⟨v, rfl, hu, hb⟩
  obtain ⟨A, c, rfl, -, hC, hA⟩ := hu.reads
  exact ⟨A, c, rfl, hC, hA, hb, own, h1.below hb, h2, h3.trans (Keep.of_below hb), h4⟩
theorem at_sure (h : At W0 N w g room s q) : Calls Try.prog 28 #[.pointer (some ⟨g, 0, none⟩)] w fun e w' => e = .returned (.int .i64 s.length) ∧ w = w' := by
  obtain ⟨own, h1, h2, h3, h4⟩ := h
  exact sure_calls h1
theorem at_sync (h : At W0 N w g room s q) :
    Calls Try.prog 31 #[.pointer (some ⟨g, 0, none⟩)] w fun e w' => e = .returned (.tuple #[]) ∧ At W0 N w' g room (over q s) [] := by
  obtain ⟨own, h1, h2, h3, h4⟩ := h
  refine (sync_calls h1 h4).mono ?_
  rintro e w' ⟨rfl, ⟨own', h5, h6⟩, h7⟩
  exact ⟨rfl, At.next h2 h3 h7 h5 h6 h4.sync⟩
theorem at_cut (h : At W0 N w g room s q) (n : Int) :
    Calls Try.prog 42 #[.pointer (some ⟨g, 0, none⟩), .int .i64 n] w fun e w' => e = .returned (.int .i64 (cErr (over q s).length n)) ∧ At W0 N w' g room (cutS s q n) (cutQ s q n) := by
  obtain ⟨own, h1, h2, h3, h4⟩ := h
  refine (cut_calls h1 h4 n).mono ?_
  rintro e w' ⟨rfl, ⟨own', h5, h6⟩, h7⟩
  exact ⟨rfl, At.next h2 h3 h7 h5 h6 (h4.cutAny n)⟩
theorem at_write (h : At W0 N w g room s q) (hql : q.length ≤ 1000000) (i : Int) (hi0 : -9223372036854775808 ≤ i) (hi1 : i ≤ 9223372036854775807) (A : Option Addr) (n cap : Nat) (c : List Int) (hn : c.length = n) (hC : kU8.C w A n c) (hby : By c) :
    Calls Try.prog 30 #[.pointer (some ⟨g, 0, none⟩), .int .i64 i, .slice A n cap] w fun e w' => e = .returned (.int .i64 (wErr room (over q s).length i n)) ∧ At W0 N w' g room s (wrQ room s q i c) := by
  subst hn
  obtain ⟨own, h1, h2, h3, h4⟩ := h
  refine (write_calls h1 h4 hql i hi0 hi1 A cap c hC).mono ?_
  rintro e w' ⟨rfl, ⟨own', h5, h6⟩, h7⟩
  exact ⟨rfl, At.next h2 h3 h7 h5 h6 (h4.writeAny i hby)⟩
theorem at_crash {w1 : World} (h : At W0 N w1 g room s q) (hb : Below w1.heap.size w1 w) (B : Option Addr) (n kc : Nat) (keep : List Int) (hn : keep.length = n) (hK : (Kd.int .i64).C w B n keep) (hB : ∀ a, B = some a → 0 < n → (w1.heap.size ≤ a.block ∨ ¬ N a.block ∧ a.block < W0.heap.size) ∧ a.block < w.heap.size) (hkr : ∀ x ∈ keep, -9223372036854775808 ≤ x ∧ x ≤ 9223372036854775807) :
    Calls Try.prog 21 #[.pointer (some ⟨g, 0, none⟩), .slice B n kc] w fun e w' => e = .returned (.tuple #[]) ∧ At W0 N w' g room (fallen keep 0 q s) [] := by
  subst hn
  obtain ⟨own, h1, h2, h3, h4⟩ := h
  refine (crash_calls (h1.below hb) h4 B kc keep hK (fun a ha h0 => ⟨fun ho => ?_, (hB a ha h0).2⟩) hkr).mono ?_
  · have := h1.lt.2.2 _ ho
    have h5 := h2 _ ho
    rcases (hB a ha h0).1 with h | ⟨h, h'⟩
    · omega
    · rcases h5 with h5 | h5
      · exact h h5
      · omega
  · rintro e w' ⟨rfl, ⟨own', h5, h6⟩, h7⟩
    exact ⟨rfl, At.next h2 (h3.trans (Keep.of_below hb)) h7 h5 h6 (h4.crash keep)⟩
theorem at_new (W0 : World) (room : Int) (w : World) (hb : Below W0.heap.size W0 w) (h0 : 0 ≤ room) (h1 : room ≤ 4194304) :
    Calls Try.prog 16 #[.int .i64 room] w fun e w' => ∃ g, e = .returned (.tuple #[.pointer (some ⟨g, 0, none⟩), .int .i64 0]) ∧ At W0 (fun _ => False) w' g room [] [] := by
  refine (new_calls room w h0 h1).mono ?_
  rintro e w' ⟨rfl, h2, h3⟩
  exact ⟨_, rfl, _, h2, fun k hk => .inr (by have := hb.size; omega), Keep.of_below (hb.trans (h3.mono hb.size)), h0, h1, by simpa using h0, fun x hx => (by cases hx), trivial⟩
/-! The same, with the answers spelled. -/
theorem at_bytesE (h : At W0 N w g room s q) (b : List Int) (n : Nat) (hb : over q s = b) (hn : b.length = n) :
    Calls Try.prog 26 #[.pointer (some ⟨g, 0, none⟩)] w fun e w' => ∃ A c, e = .returned (.slice A n c) ∧ kU8.C w' A n b ∧ (∀ a, A = some a → w.heap.size ≤ a.block ∧ a.block < w'.heap.size) ∧ Below w.heap.size w w' ∧ At W0 N w' g room s q := by
  subst hb
  subst hn
  exact at_bytes h
theorem at_syncE (h : At W0 N w g room s q) (b : List Int) (hb : over q s = b) :
    Calls Try.prog 31 #[.pointer (some ⟨g, 0, none⟩)] w fun e w' => e = .returned (.tuple #[]) ∧ At W0 N w' g room b [] := by
  subst hb
  exact at_sync h
theorem at_writeE (h : At W0 N w g room s q) (hql : q.length ≤ 1000000) (i : Int) (hi0 : -9223372036854775808 ≤ i) (hi1 : i ≤ 9223372036854775807) (A : Option Addr) (n cap : Nat) (c : List Int) (hn : c.length = n) (hC : kU8.C w A n c) (hby : By c) (r : Int) (q' : List (Int × List Int)) (hr : wErr room (over q s).length i n = r) (hq : r = 0 → q ++ [(i, c)] = q') (hq2 : r ≠ 0 → q = q') :
    Calls Try.prog 30 #[.pointer (some ⟨g, 0, none⟩), .int .i64 i, .slice A n cap] w fun e w' => e = .returned (.int .i64 r) ∧ At W0 N w' g room s q' := by
  subst hr
  have e : wrQ room s q i c = q' := by
    unfold wrQ
    rw [hn]
    split
    · rename_i h; exact hq h
    · rename_i h; exact hq2 h
  rw [← e]
  exact at_write h hql i hi0 hi1 A n cap c hn hC hby
theorem at_crashE {w1 : World} (h : At W0 N w1 g room s q) (hb : Below w1.heap.size w1 w) (B : Option Addr) (n kc : Nat) (keep : List Int) (hn : keep.length = n) (hK : (Kd.int .i64).C w B n keep) (hB : ∀ a, B = some a → 0 < n → (w1.heap.size ≤ a.block ∨ ¬ N a.block ∧ a.block < W0.heap.size) ∧ a.block < w.heap.size) (hkr : ∀ x ∈ keep, -9223372036854775808 ≤ x ∧ x ≤ 9223372036854775807) (b : List Int) (hf : fallen keep 0 q s = b) :
    Calls Try.prog 21 #[.pointer (some ⟨g, 0, none⟩), .slice B n kc] w fun e w' => e = .returned (.tuple #[]) ∧ At W0 N w' g room b [] := by
  subst hf
  exact at_crash h hb B n kc keep hn hK hB hkr
end
/-! ### nil files -/
theorem nil_bytes (w : World) : Calls Try.prog 26 #[.pointer none] w fun e w' => e = .returned (.slice none 0 0) ∧ w = w' := by
  go_enter Try.func26, Try.ntmps26
  go_wp2
  go_ret
  exact ⟨rfl, rfl⟩
theorem nil_sure (w : World) : Calls Try.prog 28 #[.pointer none] w fun e w' => e = .returned (.int .i64 0) ∧ w = w' := by
  go_enter Try.func28, Try.ntmps28
  go_wp2
  go_ret
  exact ⟨rfl, rfl⟩
theorem nil_sync (w : World) : Calls Try.prog 31 #[.pointer none] w fun e w' => e = .returned (.tuple #[]) ∧ w = w' := by
  go_enter Try.func31, Try.ntmps31
  go_wp2
  first | go_end0 | ((try simp only [Exit.inBlock, Exit.then]); refine bodyPost_ret (results_none rfl _ _ _) rfl ?_)
  exact ⟨rfl, rfl⟩
theorem nil_crash (w : World) (B : Option Addr) (n c : Nat) : Calls Try.prog 21 #[.pointer none, .slice B n c] w fun e w' => e = .returned (.tuple #[]) ∧ w = w' := by
  go_enter Try.func21, Try.ntmps21
  go_wp2
  first | go_end0 | ((try simp only [Exit.inBlock, Exit.then]); refine bodyPost_ret (results_none rfl _ _ _) rfl ?_)
  exact ⟨rfl, rfl⟩
theorem nil_cut (w : World) (n : Int) : Calls Try.prog 42 #[.pointer none, .int .i64 n] w fun e w' => e = .returned (.int .i64 1) ∧ w = w' := by
  go_enter Try.func42, Try.ntmps42
  go_wp2
  go_ret
  exact ⟨rfl, rfl⟩
theorem nil_write (w : World) (n : Int) (B : Option Addr) (m c : Nat) : Calls Try.prog 30 #[.pointer none, .int .i64 n, .slice B m c] w fun e w' => e = .returned (.int .i64 1) ∧ w = w' := by
  go_enter Try.func30, Try.ntmps30
  go_wp2
  go_ret
  exact ⟨rfl, rfl⟩
/-- What a slice's bytes are as a string. -/
theorem C_str {w : World} {A : Option Addr} {n c : Nat} {xs : List Int} (h : kU8.C w A n xs) : (convert 24 9 (.slice A n c)).run Try.prog w = .ok (.string (strOfNums xs)) w :=
  Kd.C_string (P := Try.prog) Try.underlying24 Try.underlying5 Try.underlying9 (c := c) h
end Go.Proofs.Ytfcpnjoiloahcaa.Fd
namespace Go.Proofs.Ytfcpnjoiloahcaa.Sp
open Go.RowKit Go.Proofs.YtfcpnjoiloahcaaW.PrintWords Go.Proofs.YtfcpnjoiloahcaaW.PrintLast Go.Proofs.YtfcpnjoiloahcaaW.PrintMore Go.Proofs.Ytfcpnjoiloahcaa.B Go.Proofs.Ytfcpnjoiloahcaa.Ta Go.Proofs.Ytfcpnjoiloahcaa.Fs
set_option linter.unusedVariables false
set_option linter.unusedSimpArgs false
abbrev Assn := World → (Nat → Prop) → Prop
/-- Its blocks alone count, and lie in the world. -/
structure Firm (P : Assn) : Prop where
  move : ∀ {w w' : World} {own S : Nat → Prop}, P w own → Keep S w w' → (∀ k, own k → ¬ S k) → P w' own
  lt : ∀ {w : World} {own : Nat → Prop}, P w own → ∀ k, own k → k < w.heap.size
def Star (P Q : Assn) : Assn := fun w own => ∃ o1 o2, P w o1 ∧ Q w o2 ∧ (∀ k, o1 k → ¬ o2 k) ∧ ∀ k, o1 k ∨ o2 k ↔ own k
def Emp : Assn := fun _ own => ∀ k, ¬ own k
theorem Firm.emp : Firm Emp := ⟨fun h _ _ => h, fun h k hk => absurd hk (h k)⟩
theorem Firm.star {P Q : Assn} (hP : Firm P) (hQ : Firm Q) : Firm (Star P Q) :=
  ⟨fun h hk hd => by
    obtain ⟨o1, o2, h1, h2, h3, h4⟩ := h
    exact ⟨o1, o2, hP.move h1 hk (fun k h => hd k ((h4 k).1 (.inl h))), hQ.move h2 hk (fun k h => hd k ((h4 k).1 (.inr h))), h3, h4⟩,
  fun h k hk => by
    obtain ⟨o1, o2, h1, h2, h3, h4⟩ := h
    exact ((h4 k).2 hk).elim (hP.lt h1 k) (hQ.lt h2 k)⟩
/-- P lies in N's blocks and new ones; since W0 nothing but these was turned. -/
def AtP (W0 : World) (N : Nat → Prop) (w : World) (P : Assn) : Prop := ∃ own, P w own ∧ (∀ k, own k → N k ∨ W0.heap.size ≤ k) ∧ Keep N W0 w
section
variable {W0 w w' w1 : World} {N : Nat → Prop} {P P' Q R : Assn}
theorem AtP.below (h : AtP W0 N w P) (hP : Firm P) (hb : Below w.heap.size w w') : AtP W0 N w' P := by
  obtain ⟨own, h1, h2, h3⟩ := h
  exact ⟨own, hP.move h1 (Keep.of_below (S := fun _ => False) hb) (fun _ _ => id), h2, h3.trans (Keep.of_below hb)⟩
theorem AtP.alloc (h : AtP W0 N w P) (hP : Firm P) (o : Obj) : AtP W0 N (w.alloc o) P := h.below hP ((Below.refl _ _).alloc (Nat.le_refl _) o)
theorem AtP.drew (h : AtP W0 N w P) (hP : Firm P) : AtP W0 N w.drew P := h.below hP (Below.refl _ _).drew
theorem AtP.keep (h : AtP W0 N w P) : Keep N W0 w := by
  obtain ⟨own, h1, h2, h3⟩ := h
  exact h3
theorem AtP.imp (h : AtP W0 N w P) (hi : ∀ own, P w own → Q w own) : AtP W0 N w Q := by
  obtain ⟨own, h1, h2, h3⟩ := h
  exact ⟨own, hi own h1, h2, h3⟩
theorem AtP.swap (h : AtP W0 N w (Star P Q)) : AtP W0 N w (Star Q P) := h.imp fun own h => by
  obtain ⟨o1, o2, h1, h2, h3, h4⟩ := h
  exact ⟨o2, o1, h2, h1, fun k a b => h3 k b a, fun k => Or.comm.trans (h4 k)⟩
theorem star_assoc {own : Nat → Prop} (h : Star (Star P Q) R w own) : Star P (Star Q R) w own := by
  obtain ⟨o1, o2, ⟨o3, o4, h1, h2, h3, h4⟩, h5, h6, h7⟩ := h
  exact ⟨o3, fun k => o4 k ∨ o2 k, h1, ⟨o4, o2, h2, h5, fun k a => h6 k ((h4 k).1 (.inr a)), fun k => Iff.rfl⟩, fun k a b => b.elim (h3 k a) (h6 k ((h4 k).1 (.inl a))), fun k => by rw [← h7 k, ← h4 k, or_assoc]⟩
theorem star_swap {own : Nat → Prop} (h : Star P Q w own) : Star Q P w own := by
  obtain ⟨o1, o2, h1, h2, h3, h4⟩ := h
  exact ⟨o2, o1, h2, h1, fun k a b => h3 k b a, fun k => Or.comm.trans (h4 k)⟩
theorem star_left {own : Nat → Prop} (h : Star P R w own) (hi : ∀ o, P w o → Q w o) : Star Q R w own := by
  obtain ⟨o1, o2, h1, h2⟩ := h
  exact ⟨o1, o2, hi o1 h1, h2⟩
theorem star_right {own : Nat → Prop} (h : Star P R w own) (hi : ∀ o, R w o → Q w o) : Star P Q w own := star_swap (star_left (star_swap h) hi)
/-- Of three the second comes first. -/
theorem AtP.second (h : AtP W0 N w (Star (Star P Q) R)) : AtP W0 N w (Star Q (Star P R)) := h.imp fun own h => by
  have h1 := star_assoc (star_left h (fun o h => star_swap h))
  exact h1
theorem AtP.first (h : AtP W0 N w (Star (Star P Q) R)) : AtP W0 N w (Star P (Star Q R)) := h.imp fun own h => star_assoc h
theorem star_unassoc {own : Nat → Prop} (h : Star P (Star Q R) w own) : Star (Star P Q) R w own := by
  obtain ⟨o1, o2, h1, ⟨o3, o4, g1, g2, g3, g4⟩, h3, h4⟩ := h
  exact ⟨fun k => o1 k ∨ o3 k, o4, ⟨o1, o3, h1, g1, fun k a b => h3 k a ((g4 k).1 (.inl b)), fun k => Iff.rfl⟩, g2, fun k a b => a.elim (fun a => h3 k a ((g4 k).1 (.inr b))) (fun a => g3 k a b), fun k => by rw [← h4 k, ← g4 k, or_assoc]⟩
theorem AtP.unfirst (h : AtP W0 N w (Star P (Star Q R))) : AtP W0 N w (Star (Star P Q) R) := h.imp fun own h => star_unassoc h
theorem AtP.unsecond (h : AtP W0 N w (Star Q (Star P R))) : AtP W0 N w (Star (Star P Q) R) := h.imp fun own h => star_left (star_unassoc h) (fun o h => star_swap h)
theorem AtP.left (h : AtP W0 N w (Star P R)) (hi : ∀ o, P w o → Q w o) : AtP W0 N w (Star Q R) := h.imp fun own h => star_left h hi
theorem AtP.right (h : AtP W0 N w (Star P R)) (hi : ∀ o, R w o → Q w o) : AtP W0 N w (Star P Q) := h.imp fun own h => star_right h hi
theorem AtP.empty (h : AtP W0 N w P) : AtP W0 N w (Star P Emp) := h.imp fun own h => ⟨own, fun _ => False, h, fun _ => id, fun _ _ => id, fun k => ⟨fun h => h.elim id False.elim, .inl⟩⟩
theorem AtP.unempty (hP : Firm P) (h : AtP W0 N w (Star P Emp)) : AtP W0 N w P := by
  obtain ⟨own, ⟨o1, o2, h1, h2, h3, h4⟩, h5, h6⟩ := h
  exact ⟨o1, h1, fun k hk => h5 k ((h4 k).1 (.inl hk)), h6⟩
theorem AtP.drop (h : AtP W0 N w (Star P R)) : AtP W0 N w P := by
  obtain ⟨own, ⟨o1, o2, h1, h2, h3, h4⟩, h5, h6⟩ := h
  exact ⟨o1, h1, fun k hk => h5 k ((h4 k).1 (.inl hk)), h6⟩
/-- The first part, as it lies. -/
theorem AtP.get (h : AtP W0 N w (Star P R)) : ∃ own, P w own ∧ ∀ k, own k → N k ∨ W0.heap.size ≤ k := by
  obtain ⟨own, ⟨o1, o2, h1, h2, h3, h4⟩, h5, h6⟩ := h
  exact ⟨o1, h1, fun k hk => h5 k ((h4 k).1 (.inl hk))⟩
/-- A call that turns the first part. -/
theorem AtP.run {F : Nat} {args : Array Value} {r : Ending} (h : AtP W0 N w1 (Star P R)) (hb : Below w1.heap.size w1 w) (hP : Firm P) (hR : Firm R)
    (hc : ∀ own, P w own → (∀ k, own k → k < w1.heap.size) → (∀ k, own k → N k ∨ W0.heap.size ≤ k) → Calls Try.prog F args w fun e w' => e = r ∧ (∃ own', P' w' own' ∧ ∀ k, own' k → own k ∨ w1.heap.size ≤ k) ∧ Keep own w w') :
    Calls Try.prog F args w fun e w' => e = r ∧ AtP W0 N w' (Star P' R) := by
  obtain ⟨own, ⟨o1, o2, h1, h2, h3, h4⟩, h5, h6⟩ := h
  have hk : Keep (fun _ => False) w1 w := Keep.of_below hb
  refine (hc o1 (hP.move h1 hk (fun _ _ => id)) (hP.lt h1) (fun k hk => h5 k ((h4 k).1 (.inl hk)))).mono ?_
  rintro e w' ⟨rfl, ⟨o', h7, h8⟩, h9⟩
  have h10 : Keep o1 w1 w' := (Keep.of_below hb).trans h9
  refine ⟨rfl, fun k => o' k ∨ o2 k, ⟨o', o2, h7, hR.move h2 h10 (fun k a b => h3 k b a), fun k a b => ?_, fun k => Iff.rfl⟩, fun k hk => ?_, h6.then h10 (fun k hl h => (h5 k ((h4 k).1 (.inl h))).elim id (fun h => by omega))⟩
  · rcases h8 k a with h | h
    · exact h3 k h b
    · have := hR.lt h2 k b; omega
  · rcases hk with hk | hk
    · rcases h8 k hk with h | h
      · exact h5 k ((h4 k).1 (.inl h))
      · exact .inr (Nat.le_trans h6.size h)
    · exact h5 k ((h4 k).1 (.inr hk))
/-- The parts turned by a step that is no call. -/
theorem AtP.step (h : AtP W0 N w (Star P R)) (hR : Firm R) (hc : ∀ own, P w own → (∃ own', P' w' own' ∧ ∀ k, own' k → own k ∨ w.heap.size ≤ k) ∧ Keep own w w') : AtP W0 N w' (Star P' R) := by
  obtain ⟨own, ⟨o1, o2, h1, h2, h3, h4⟩, h5, h6⟩ := h
  obtain ⟨⟨o', h7, h8⟩, h9⟩ := hc o1 h1
  refine ⟨fun k => o' k ∨ o2 k, ⟨o', o2, h7, hR.move h2 h9 (fun k a b => h3 k b a), fun k a b => ?_, fun k => Iff.rfl⟩, fun k hk => ?_, h6.then h9 (fun k hl h => (h5 k ((h4 k).1 (.inl h))).elim id (fun h => by omega))⟩
  · rcases h8 k a with h | h
    · exact h3 k h b
    · have := hR.lt h2 k b; omega
  · rcases hk with hk | hk
    · rcases h8 k hk with h | h
      · exact h5 k ((h4 k).1 (.inl h))
      · exact .inr (Nat.le_trans h6.size h)
    · exact h5 k ((h4 k).1 (.inr hk))
/-- A new part, made of new blocks. -/
theorem AtP.more (h : AtP W0 N w R) (hR : Firm R) (hb : Below w.heap.size w w') {o1 : Nat → Prop} (h1 : P w' o1) (h2 : ∀ k, o1 k → w.heap.size ≤ k) : AtP W0 N w' (Star P R) := by
  obtain ⟨own, h3, h4, h5⟩ := h
  exact ⟨fun k => o1 k ∨ own k, ⟨o1, own, h1, hR.move h3 (Keep.of_below (S := fun _ => False) hb) (fun _ _ => id), fun k a b => by have := hR.lt h3 k b; have := h2 k a; omega, fun k => Iff.rfl⟩, fun k hk => hk.elim (fun a => .inr (Nat.le_trans h5.size (h2 k a))) (h4 k), h5.trans (Keep.of_below hb)⟩
/-- From here on: what was made in the meantime stays. -/
theorem AtP.rebase {wb : World} (h : AtP W0 N w P) (hP : Firm P) (hb : Below w.heap.size w wb) : AtP wb (fun k => (N k ∨ W0.heap.size ≤ k) ∧ k < w.heap.size) wb P := by
  obtain ⟨own, h1, h2, h3⟩ := h
  exact ⟨own, hP.move h1 (Keep.of_below (S := fun _ => False) hb) (fun _ _ => id), fun k hk => .inl ⟨h2 k hk, hP.lt h1 k hk⟩, Keep.refl _ _⟩
theorem AtP.back {wb : World} {N' : Nat → Prop} (h : AtP wb N' w P) (hN : ∀ k, N' k → N k ∨ W0.heap.size ≤ k) (hb : Keep N W0 wb) : AtP W0 N w P := by
  obtain ⟨own, h1, h2, h3⟩ := h
  exact ⟨own, h1, fun k hk => (h2 k hk).elim (hN k) (fun h => .inr (Nat.le_trans hb.size h)), hb.then h3 (fun k hl h => (hN k h).elim id (fun h => by omega))⟩
/-- Blocks that are none of its own are turned. -/
theorem AtP.touch {S M : Nat → Prop} (h : AtP W0 N w P) (hP : Firm P) (hk : Keep S w w') (hS : ∀ k, S k → ¬ N k ∧ k < W0.heap.size) (hM : ∀ k, N k ∨ S k → M k) : AtP W0 M w' P := by
  obtain ⟨own, h1, h2, h3⟩ := h
  exact ⟨own, hP.move h1 hk (fun k ho hs => (h2 k ho).elim (hS k hs).1 (fun h => by have := (hS k hs).2; omega)), fun k ho => (h2 k ho).imp (fun h => hM k (.inl h)) id, (h3.mono (fun k _ h => hM k (.inl h))).then hk (fun k _ h => hM k (.inr h))⟩
/-- From here on, behind stores into blocks that are none of its own. -/
theorem AtP.anew {S : Nat → Prop} (h : AtP W0 N w P) (hP : Firm P) (hk : Keep S w w') (hS : ∀ k, S k → ¬ N k ∧ k < W0.heap.size) : AtP w' (fun k => (N k ∨ W0.heap.size ≤ k) ∧ k < w.heap.size) w' P := by
  obtain ⟨own, h1, h2, h3⟩ := h
  exact ⟨own, hP.move h1 hk (fun k ho hs => (h2 k ho).elim (hS k hs).1 (fun h => by have := (hS k hs).2; omega)), fun k ho => .inl ⟨h2 k ho, hP.lt h1 k ho⟩, Keep.refl _ _⟩
end
/-! ### A file; a book's block -/
def FileA (g : Nat) (room : Int) (s : List Int) (q : List (Int × List Int)) : Assn := fun w own => Fd.FF w g own room s q ∧ FOk room s q
def TabA (gB gF : Nat) (size : Int) (t : Tab) : Assn := fun w own => TabP w gB (.pointer (some ⟨gF, 0, none⟩)) size own t ∧ TOk t
theorem FileA.firm {g : Nat} {room : Int} {s : List Int} {q : List (Int × List Int)} : Firm (FileA g room s q) := ⟨fun h hk hd => ⟨h.1.move hk hd, h.2⟩, fun h => h.1.lt.2.2⟩
theorem TabA.firm {gB gF : Nat} {size : Int} {t : Tab} : Firm (TabA gB gF size t) := ⟨fun h hk hd => ⟨h.1.move hk hd, h.2⟩, fun h => h.1.lt.2.2⟩
/-- A book and its file; nothing waits to be sure behind what is. -/
abbrev BookA (gB gF : Nat) (room : Int) (s : List Int) (q : List (Int × List Int)) (t : Tab) : Assn := Star (TabA gB gF s.length t) (FileA gF room s q)
theorem BookA.firm {gB gF : Nat} {room : Int} {s : List Int} {q : List (Int × List Int)} {t : Tab} : Firm (BookA gB gF room s q t) := TabA.firm.star FileA.firm
section
variable {W0 w w1 : World} {N : Nat → Prop} {R : Assn} {g gB gF : Nat} {room size : Int} {s : List Int} {q : List (Int × List Int)} {t : Tab}
theorem AtP.fok (h : AtP W0 N w (Star (FileA g room s q) R)) : FOk room s q := by
  obtain ⟨own, h1, h2⟩ := h.get
  exact h1.2
theorem AtP.tok (h : AtP W0 N w (Star (TabA gB gF size t) R)) : TOk t := by
  obtain ⟨own, h1, h2⟩ := h.get
  exact h1.2
theorem f_bytes (h : AtP W0 N w (Star (FileA g room s q) R)) (b : List Int) (n : Nat) (hb : over q s = b) (hn : b.length = n) :
    Calls Try.prog 26 #[.pointer (some ⟨g, 0, none⟩)] w fun e w' => ∃ A c, e = .returned (.slice A n c) ∧ kU8.C w' A n b ∧ n ≤ c ∧ (∀ a, A = some a → w.heap.size ≤ a.block ∧ a.block < w'.heap.size) ∧ Below w.heap.size w w' := by
  subst hb
  subst hn
  obtain ⟨own, h1, h2⟩ := h.get
  refine (Fd.bytes_calls h1.1 h1.2).mono ?_
  rintro e w' ⟨v, rfl, hu, hb⟩
  obtain ⟨A, c, rfl, hlc, hC, hA⟩ := hu.reads
  exact ⟨A, c, rfl, hC, hlc, hA, hb⟩
theorem f_sure (h : AtP W0 N w (Star (FileA g room s q) R)) : Calls Try.prog 28 #[.pointer (some ⟨g, 0, none⟩)] w fun e w' => e = .returned (.int .i64 s.length) ∧ w = w' := by
  obtain ⟨own, h1, h2⟩ := h.get
  exact Fd.sure_calls h1.1
theorem f_sync (h : AtP W0 N w (Star (FileA g room s q) R)) (hR : Firm R) (b : List Int) (hb : over q s = b) : Calls Try.prog 31 #[.pointer (some ⟨g, 0, none⟩)] w fun e w' => e = .returned (.tuple #[]) ∧ AtP W0 N w' (Star (FileA g room b []) R) := by
  subst hb
  refine h.run (Below.refl _ _) FileA.firm hR (fun own h1 _ _ => (Fd.sync_calls h1.1 h1.2).mono ?_)
  rintro e w' ⟨rfl, ⟨o', h2, h3⟩, h4⟩
  exact ⟨rfl, ⟨o', ⟨h2, h.fok.sync⟩, h3⟩, h4⟩
theorem f_cut (h : AtP W0 N w (Star (FileA g room s q) R)) (hR : Firm R) (n : Nat) (hn : n ≤ (over q s).length) : Calls Try.prog 42 #[.pointer (some ⟨g, 0, none⟩), .int .i64 n] w fun e w' => e = .returned (.int .i64 0) ∧ AtP W0 N w' (Star (FileA g room ((over q s).take n) []) R) := by
  have hc : cErr (over q s).length n = 0 := if_neg (by omega)
  refine h.run (Below.refl _ _) FileA.firm hR (fun own h1 _ _ => (Fd.cut_calls h1.1 h1.2 n).mono ?_)
  rintro e w' ⟨rfl, ⟨o', h2, h3⟩, h4⟩
  have e1 : cutS s q n = (over q s).take n := by rw [cutS, if_pos hc, Int.toNat_natCast]
  have e2 : cutQ s q n = [] := if_pos hc
  rw [e1, e2] at h2
  exact ⟨by rw [hc], ⟨o', ⟨h2, h.fok.cut n⟩, h3⟩, h4⟩
theorem f_write (h : AtP W0 N w1 (Star (FileA g room s q) R)) (hb : Below w1.heap.size w1 w) (hR : Firm R) (hql : q.length ≤ 1000000) (i : Int) (hi0 : -9223372036854775808 ≤ i) (hi1 : i ≤ 9223372036854775807) (A : Option Addr) (n cap : Nat) (c : List Int) (hn : c.length = n) (hC : kU8.C w A n c) (hby : By c) (r : Int) (hr : wErr room (over q s).length i n = r) :
    Calls Try.prog 30 #[.pointer (some ⟨g, 0, none⟩), .int .i64 i, .slice A n cap] w fun e w' => e = .returned (.int .i64 r) ∧ AtP W0 N w' (Star (FileA g room s (wrQ room s q i c)) R) := by
  subst hn
  subst hr
  refine h.run hb FileA.firm hR (fun own h1 hl _ => (Fd.write_calls h1.1 h1.2 hql i hi0 hi1 A cap c hC).mono ?_)
  rintro e w' ⟨rfl, ⟨o', h2, h3⟩, h4⟩
  exact ⟨rfl, ⟨o', ⟨h2, h.fok.writeAny i hby⟩, fun k hk => (h3 k hk).imp id (fun h => Nat.le_trans hb.size h)⟩, h4⟩
theorem f_crash (h : AtP W0 N w1 (Star (FileA g room s q) R)) (hb : Below w1.heap.size w1 w) (hR : Firm R) (B : Option Addr) (n kc : Nat) (keep : List Int) (hn : keep.length = n) (hK : (Kd.int .i64).C w B n keep) (hB : ∀ a, B = some a → 0 < n → (w1.heap.size ≤ a.block ∨ ¬ N a.block ∧ a.block < W0.heap.size) ∧ a.block < w.heap.size) (hkr : ∀ x ∈ keep, -9223372036854775808 ≤ x ∧ x ≤ 9223372036854775807) (b : List Int) (hf : fallen keep 0 q s = b) :
    Calls Try.prog 21 #[.pointer (some ⟨g, 0, none⟩), .slice B n kc] w fun e w' => e = .returned (.tuple #[]) ∧ AtP W0 N w' (Star (FileA g room b []) R) := by
  subst hn
  subst hf
  refine h.run hb FileA.firm hR (fun own h1 hl ho => (Fd.crash_calls h1.1 h1.2 B kc keep hK (fun a ha h0 => ⟨fun hoa => ?_, (hB a ha h0).2⟩) hkr).mono ?_)
  · have := hl _ hoa
    rcases (hB a ha h0).1 with h | ⟨h, h'⟩
    · omega
    · rcases ho _ hoa with h5 | h5
      · exact h h5
      · omega
  · rintro e w' ⟨rfl, ⟨o', h2, h3⟩, h4⟩
    exact ⟨rfl, ⟨o', ⟨h2, h.fok.crash keep⟩, fun k hk => (h3 k hk).imp id (fun h => Nat.le_trans hb.size h)⟩, h4⟩
theorem f_new (W0 : World) (room : Int) (w : World) (hb : Below W0.heap.size W0 w) (h0 : 0 ≤ room) (h1 : room ≤ 4194304) :
    Calls Try.prog 16 #[.int .i64 room] w fun e w' => ∃ g, e = .returned (.tuple #[.pointer (some ⟨g, 0, none⟩), .int .i64 0]) ∧ AtP W0 (fun _ => False) w' (FileA g room [] []) ∧ Below w.heap.size w w' := by
  refine (Fd.new_calls room w h0 h1).mono ?_
  rintro e w' ⟨rfl, h2, h3⟩
  exact ⟨_, rfl, ⟨_, ⟨h2, h0, h1, by simpa using h0, fun x hx => (by cases hx), trivial⟩, fun k hk => .inr (by have := hb.size; omega), Keep.of_below (hb.trans (h3.mono hb.size))⟩, h3⟩
theorem t_put (h : AtP W0 N w1 (Star (TabA gB gF size t) R)) (hb : Below w1.heap.size w1 w) (hR : Firm R) (k : Int) (hg : getT t k = none) (h0 : 0 ≤ k) (h16 : k < 16) (v : List Int) (A : Option Addr) (n m : Nat) (hvn : v.length = n) (hC : kU8.C w A n v) (hvm : n ≤ m) (hby : By v) (hvl : n ≤ 1000000) (hA : ∀ a, A = some a → w1.heap.size ≤ a.block ∧ a.block < w.heap.size) :
    Calls Try.prog 41 #[.pointer (some ⟨gB, 2, none⟩), .int .i64 k, .slice A n m] w fun e w' => e = .returned (.bool true) ∧ AtP W0 N w' (Star (TabA gB gF size (putT t k v)) R) := by
  refine h.run hb TabA.firm hR (fun own h1 hl _ => (tput_calls h1.1 h1.2 k hg v A n m hvn hC hvm (fun a ha => ⟨fun ho => by have := hl _ ho; have := (hA a ha).1; omega, (hA a ha).2⟩)).mono ?_)
  rintro e w' ⟨rfl, ⟨o', h2, h3⟩, h4⟩
  refine ⟨rfl, ⟨o', ⟨h2, h1.2.put (get_none hg) h0 h16 hby (by omega)⟩, fun j hj => ?_⟩, h4⟩
  rcases h3 j hj with h | h | ⟨a, ha, rfl⟩
  · exact .inl h
  · exact .inr (Nat.le_trans hb.size h)
  · exact .inr (hA a ha).1
/-- What a book's block holds. -/
theorem t_cells (h : AtP W0 N w (Star (TabA gB gF size t) R)) : w.cell? ⟨gB, 0, none⟩ = some (.pointer (some ⟨gF, 0, none⟩)) ∧ w.cell? ⟨gB, 1, none⟩ = some (.int .i64 size) ∧ w.frozen? ⟨gB, 1, none⟩ = false := by
  obtain ⟨own, ⟨⟨A1, A2, c1, c2, cs, V, h1, -⟩, -⟩, h2⟩ := h.get
  exact ⟨by simp [World.cell?, h1], by simp [World.cell?, h1], blk_frozen h1 1⟩
/-- Its size is turned. -/
theorem t_size (h : AtP W0 N w (Star (TabA gB gF size t) R)) (hR : Firm R) (n : Int) : AtP W0 N (w.setCell ⟨gB, 1, none⟩ (.int .i64 n)) (Star (TabA gB gF n t) R) := by
  refine h.step hR (fun own h1 => ?_)
  obtain ⟨⟨A1, A2, c1, c2, cs, V, h1, h2, h3, h4, h5, h6, h7, h8, h9, h10⟩, hok⟩ := h1
  have hf : ∀ j, j ≠ gB → (w.setCell ⟨gB, 1, none⟩ (.int .i64 n)).heap[j]? = w.heap[j]? := fun j hj => Below.heap_setCell _ _ _ _ (by show j ≠ gB; exact hj)
  refine ⟨⟨own, ⟨⟨A1, A2, c1, c2, cs, V, ?_, row_move h2 (fun a e => hf _ (h5 a e).2.1), row_move h3 (fun a e => hf _ (h6 a e).2.1), h4.step (by simp) (fun k hk _ => hf k (h8 k hk).2), h5, h6, h7, h8, h9, fun k hk => by simpa using h10 k hk⟩, hok⟩, fun k hk => .inl hk⟩, (Keep.refl _ _).setCell _ _ (fun _ => h9)⟩
  rw [heap_setCell_same w gB 1 _ _ _ h1]; rfl
end
end Go.Proofs.Ytfcpnjoiloahcaa.Sp
namespace Go.Proofs.Ytfcpnjoiloahcaa.Ls
open Go.Proofs.Ytfcpnjoiloahcaa.B
set_option linter.unusedVariables false
set_option linter.unusedSimpArgs false

/-- A number off the bytes r, i of them are taken, their value is n; l0: all. Value, what is left, the fault. -/
def numGo (l0 : List Int) : List Int → Nat → Int → Int × List Int × Int
  | [], _, _ => (0, l0, 3)
  | x :: r, i, n => if (i = 9 ∧ 1 < x) ∨ (0 < i ∧ x = 0) then (0, l0, 8) else if x < 128 then (n + x * 128 ^ i, r, 0) else numGo l0 r (i + 1) (n + (x - 128) * 128 ^ i)
def num (l : List Int) (c : Int) : Int × List Int × Int := if c = 0 then numGo l l 0 0 else (0, l, c)
def zag (n : Int) : Int := if n % 2 = 1 then - (n / 2) - 1 else n / 2
def below (limit : Int) (l : List Int) (c : Int) : Int × List Int × Int :=
  if (num l c).2.2 = 0 then (if limit < 1 ∨ limit ≤ (num l c).1 then (0, (num l c).2.1, 2) else num l c) else (0, (num l c).2)
def takes (n : Int) (l : List Int) (c : Int) : List Int × List Int × Int :=
  if c = 0 then (if n < 0 ∨ (l.length : Int) < n then ([], l, 3) else (l.take n.toNat, l.drop n.toNat, 0)) else ([], l, c)
def failed (n c : Int) : Int := if c = 0 then n else c
def ended (l : List Int) (c : Int) : Int := if 0 < l.length then failed 5 c else c

theorem pow_pos (i : Nat) : (0 : Int) < 128 ^ i := Int.pow_pos (by decide)
theorem pow_le (i j : Nat) (h : i ≤ j) : (128 : Int) ^ i ≤ 128 ^ j := by exact_mod_cast Nat.pow_le_pow_right (by decide : 0 < 128) h
theorem pow_two (i : Nat) : (2 : Int) ^ (7 * i) = 128 ^ i := by rw [Int.pow_mul]; rfl

/-- The number so far fits. -/
theorem wraps_u64 (n : Int) (h₀ : 0 ≤ n) (h₁ : n < 2 ^ 64) : IntKind.u64.wrap n = n := by
  simp only [IntKind.wrap, IntKind.bits, IntKind.signed]
  simp
  omega
theorem wraps_u32 (n : Int) (h₀ : 0 ≤ n) (h₁ : n < 2 ^ 32) : IntKind.u32.wrap n = n := by
  simp only [IntKind.wrap, IntKind.bits, IntKind.signed]
  simp
  omega
theorem bits_or_comm (k : IntKind) (x y : Int) : Go.bits .or k x y = Go.bits .or k y x := by
  unfold Go.bits
  simp only [BitVec.or_comm]
theorem two64 : (2 : Int) ^ 64 = 18446744073709551616 := by decide
theorem or_add (i : Nat) (N y : Int) (hN0 : 0 ≤ N) (hN : N < 128 ^ i) (hN1 : N < 18446744073709551616) (hy0 : 0 ≤ y) (hy : y * 128 ^ i < 18446744073709551616) :
    Go.bits .or .u64 N (IntKind.u64.wrap (y * 2 ^ (7 * i))) = N + y * 128 ^ i := by
  rw [pow_two]
  have h0 : 0 ≤ y * 128 ^ i := Int.mul_nonneg hy0 (Int.le_of_lt (pow_pos i))
  rw [wraps_u64 _ h0 (by rw [two64]; exact hy), bits_or_comm, Int.add_comm]
  exact bits_join .u64 64 (by decide) wraps_u64 (7 * i) (y * 128 ^ i) N h0 (by rw [pow_two]; exact Int.mul_emod_left _ _) (by rw [two64]; exact hy) hN0 (by rw [pow_two]; exact hN) (by rw [two64]; exact hN1)
theorem and127 (x : Int) (h0 : 128 ≤ x) (h1 : x < 256) : Go.bits .and .u8 x 127 = x - 128 := by
  have := bits_mask .u8 8 (by decide) wraps_u8 7 (by decide) x (by omega) (by simpa using h1)
  have e : ((2 : Int) ^ 7 - 1) = 127 := by decide
  rw [e] at this
  rw [this]
  have : (2 : Int) ^ 7 = 128 := by decide
  omega
theorem pow9 : (128 : Int) ^ 9 = 9223372036854775808 := by decide
/-- What a round adds, and what is left beneath the next unit. -/
theorem go_lt (i : Nat) (N y : Int) (hN : N < 128 ^ i) (hy : y < 128) : N + y * 128 ^ i < 128 ^ (i + 1) := by
  have h := Int.mul_le_mul_of_nonneg_right (show y ≤ 127 by omega) (Int.le_of_lt (pow_pos i))
  rw [Int.pow_succ]
  omega
theorem go_max (i : Nat) (hi : i ≤ 9) (y : Int) (h0 : 0 ≤ y) (h : y < 128) (h9 : i = 9 → y ≤ 1) : y * 128 ^ i < 18446744073709551616 := by
  rcases Nat.lt_or_eq_of_le hi with h8 | rfl
  · have h1 := pow_le (i + 1) 9 h8
    rw [pow9, Int.pow_succ] at h1
    have h2 := Int.mul_le_mul_of_nonneg_right (show y ≤ 127 by omega) (Int.le_of_lt (pow_pos i))
    have := pow_pos i
    omega
  · rw [pow9]; have := h9 rfl; omega
/-! What a number is, and its sign. -/
theorem numGo_range (l0 : List Int) : ∀ (l : List Int) (i : Nat) (n : Int), By l → i ≤ 9 → 0 ≤ n → n < 128 ^ i → 0 ≤ (numGo l0 l i n).1 ∧ (numGo l0 l i n).1 < 18446744073709551616
  | [], _, _, _, _, _, _ => by simp [numGo]
  | x :: r, i, n, hl, hi, h0, h1 => by
    have hx := hl x List.mem_cons_self
    rw [numGo]
    split
    · simp
    · rename_i hb
      split
      · rename_i h128
        have hm := go_max i hi x hx.1 h128 (by omega)
        have := Int.mul_nonneg hx.1 (Int.le_of_lt (pow_pos i))
        have h9 := pow_le i 9 hi
        rw [pow9] at h9
        have hlt := go_lt i n x h1 h128
        refine ⟨by show 0 ≤ n + x * 128 ^ i; omega, ?_⟩
        show n + x * 128 ^ i < _
        rcases Nat.lt_or_eq_of_le hi with h8 | rfl
        · have := pow_le (i + 1) 9 h8
          rw [pow9] at this
          omega
        · have hx1 : x ≤ 1 := by omega
          have := Int.mul_le_mul_of_nonneg_right hx1 (Int.le_of_lt (pow_pos 9))
          rw [pow9] at *
          omega
      · rename_i h128
        have := Int.mul_nonneg (show 0 ≤ x - 128 by omega) (Int.le_of_lt (pow_pos i))
        exact numGo_range l0 r (i + 1) _ (fun y hy => hl y (List.mem_cons_of_mem _ hy)) (by omega) (by omega) (go_lt i n (x - 128) h1 (by omega))
theorem num_range (l : List Int) (c : Int) (h : By l) : 0 ≤ (num l c).1 ∧ (num l c).1 < 18446744073709551616 := by
  unfold num
  split
  · exact numGo_range l l 0 0 h (by omega) (by decide) (by decide)
  · simp
theorem numGo_by (l0 : List Int) (h0 : By l0) : ∀ (l : List Int) (i : Nat) (n : Int), By l → By (numGo l0 l i n).2.1
  | [], _, _, _ => by simpa [numGo] using h0
  | x :: r, i, n, hl => by
    have hr : By r := fun y hy => hl y (List.mem_cons_of_mem _ hy)
    rw [numGo]
    split
    · exact h0
    · split
      · exact hr
      · exact numGo_by l0 h0 r _ _ hr
theorem num_by (l : List Int) (c : Int) (h : By l) : By (num l c).2.1 := by
  unfold num
  split
  · exact numGo_by l h l 0 0 h
  · exact h
theorem below_by (m : Int) (l : List Int) (c : Int) (h : By l) : By (below m l c).2.1 := by
  unfold below
  split
  · split <;> exact num_by l c h
  · exact num_by l c h
theorem takes_by (m : Int) (l : List Int) (c : Int) (h : By l) : By (takes m l c).1 ∧ By (takes m l c).2.1 := by
  have hn : By [] := fun x hx => by simp at hx
  unfold takes
  split
  · split
    · exact ⟨hn, h⟩
    · exact ⟨h.take _, h.drop _⟩
  · exact ⟨hn, h⟩

theorem and1 (n : Int) (h0 : 0 ≤ n) (h1 : n < 18446744073709551616) : Go.bits .and .u64 n 1 = n % 2 := by
  have := bits_mask .u64 64 (by decide) wraps_u64 1 (by decide) n h0 (by rw [two64]; exact h1)
  simpa using this
theorem wrap_i64 (n : Int) (h0 : -9223372036854775808 ≤ n) (h1 : n ≤ 9223372036854775807) : IntKind.i64.wrap n = n := by
  rw [IntKind.wrap_i64]; omega
theorem xor_i64_0 (x : Int) (h0 : -9223372036854775808 ≤ x) (h1 : x ≤ 9223372036854775807) : Go.bits .xor .i64 x 0 = x := by
  show IntKind.i64.wrap ((BitVec.ofInt 64 x ^^^ BitVec.ofInt 64 0).toNat : Int) = x
  have e : BitVec.ofInt 64 0 = 0#64 := by decide
  rw [e, BitVec.xor_zero, IntKind.wrap_i64, BitVec.toNat_ofInt]
  omega
theorem xor_i64_m1 (x : Int) (h0 : -9223372036854775808 ≤ x) (h1 : x ≤ 9223372036854775807) : Go.bits .xor .i64 x (-1) = -x - 1 := by
  show IntKind.i64.wrap ((BitVec.ofInt 64 x ^^^ BitVec.ofInt 64 (-1)).toNat : Int) = -x - 1
  have e : BitVec.ofInt 64 (-1) = BitVec.allOnes 64 := by decide
  rw [e, BitVec.xor_allOnes, IntKind.wrap_i64, BitVec.toNat_not, BitVec.toNat_ofInt]
  omega
theorem zag_bits (n : Int) (h0 : 0 ≤ n) (h1 : n < 18446744073709551616) : Go.bits .xor .i64 (n / 2) (-(Go.bits .and .u64 n 1)) = zag n := by
  rw [and1 n h0 h1]
  unfold zag
  split
  · rename_i h
    rw [h, xor_i64_m1 _ (by omega) (by omega)]
  · rename_i h
    have h2 : n % 2 = 0 := by omega
    rw [h2]
    exact xor_i64_0 _ (by omega) (by omega)
theorem zag_range (n : Int) (h0 : 0 ≤ n) (h1 : n < 18446744073709551616) : -9223372036854775808 ≤ zag n ∧ zag n ≤ 9223372036854775807 := by
  unfold zag
  split <;> omega
def zig (n : Int) : Int := if n < 0 then -2 * n - 1 else 2 * n
theorem xor_u64_0 (x : Int) (h0 : 0 ≤ x) (h1 : x < 18446744073709551616) : Go.bits .xor .u64 x 0 = x := by
  show IntKind.u64.wrap ((BitVec.ofInt 64 x ^^^ BitVec.ofInt 64 0).toNat : Int) = x
  have e : BitVec.ofInt 64 0 = 0#64 := by decide
  rw [e, BitVec.xor_zero, BitVec.toNat_ofInt, wraps_u64 _ (by omega) (by omega)]
  omega
theorem xor_u64_m1 (x : Int) (h0 : 0 ≤ x) (h1 : x < 18446744073709551616) : Go.bits .xor .u64 x 18446744073709551615 = 18446744073709551615 - x := by
  show IntKind.u64.wrap ((BitVec.ofInt 64 x ^^^ BitVec.ofInt 64 18446744073709551615).toNat : Int) = _
  have e : BitVec.ofInt 64 18446744073709551615 = BitVec.allOnes 64 := by decide
  rw [e, BitVec.xor_allOnes, BitVec.toNat_not, BitVec.toNat_ofInt, wraps_u64 _ (by omega) (by omega)]
  omega
theorem wrap_u64 (n : Int) : IntKind.u64.wrap n = n % 18446744073709551616 := by
  simp [IntKind.wrap, IntKind.bits, IntKind.signed]
theorem zig_bits (n : Int) (h0 : -9223372036854775808 ≤ n) (h1 : n ≤ 9223372036854775807) :
    Go.bits .xor .u64 (IntKind.u64.wrap (IntKind.u64.wrap n * 2)) (IntKind.u64.wrap (n / 9223372036854775808)) = zig n := by
  unfold zig
  simp only [wrap_u64]
  split
  · rename_i h
    rw [show n / 9223372036854775808 % 18446744073709551616 = 18446744073709551615 by omega, xor_u64_m1 _ (by omega) (by omega)]
    omega
  · rename_i h
    rw [show n / 9223372036854775808 % 18446744073709551616 = 0 by omega, xor_u64_0 _ (by omega) (by omega)]
    omega
theorem zig_range (n : Int) (h0 : -9223372036854775808 ≤ n) (h1 : n ≤ 9223372036854775807) : 0 ≤ zig n ∧ zig n < 18446744073709551616 := by
  unfold zig
  split <;> omega
/-- A number's bytes. -/
def putl (n : Nat) : List Int := if n < 128 then [(n : Int)] else ((n % 128 + 128 : Nat) : Int) :: putl (n / 128)
termination_by n
decreasing_by omega
theorem or128 (n : Int) (h0 : 0 ≤ n) : Go.bits .or .u8 (n % 256) 128 = n % 128 + 128 := by
  have key : ∀ m : Fin 256, Go.bits .or .u8 ((m.val : Nat) : Int) 128 = ((m.val % 128 + 128 : Nat) : Int) := by decide +kernel
  have h := key ⟨(n % 256).toNat, by omega⟩
  simp only at h
  rw [show (((n % 256).toNat : Nat) : Int) = n % 256 by omega] at h
  rw [h]
  omega
theorem putl_lt {n : Nat} (h : n < 128) : putl n = [(n : Int)] := by rw [putl, if_pos h]
theorem putl_ge {n : Nat} (h : ¬ n < 128) : putl n = ((n % 128 + 128 : Nat) : Int) :: putl (n / 128) := by rw [putl, if_neg h]
theorem putl_by (n : Nat) : By (putl n) := by
  induction n using Nat.strongRecOn with
  | ind n ih =>
    rw [putl]
    split
    · intro x hx
      rw [List.mem_singleton] at hx
      omega
    · intro x hx
      rcases List.mem_cons.1 hx with rfl | hx
      · omega
      · exact ih (n / 128) (by omega) x hx
theorem putl_len (n : Nat) : 0 < (putl n).length ∧ ∀ k, n < 128 ^ k → 0 < k → (putl n).length ≤ k := by
  induction n using Nat.strongRecOn with
  | ind n ih =>
    rw [putl]
    split
    · exact ⟨by simp, fun k _ hk => hk⟩
    · rename_i h
      refine ⟨by simp, fun k hn hk => ?_⟩
      rw [List.length_cons]
      obtain ⟨j, rfl⟩ : ∃ j, k = j + 1 := ⟨k - 1, by omega⟩
      rcases Nat.eq_zero_or_pos j with rfl | hj
      · simp at hn; omega
      · have := (ih (n / 128) (by omega)).2 j (by rw [Nat.pow_succ] at hn; omega) hj
        omega
theorem putl_ten (n : Nat) (h : n < 18446744073709551616) : (putl n).length ≤ 10 := by
  have h10 : 128 ^ 10 = 1180591620717411303424 := by decide
  exact (putl_len n).2 10 (by omega) (by decide)
end Go.Proofs.Ytfcpnjoiloahcaa.Ls
namespace Go.Proofs.Ytfcpnjoiloahcaa.Lt
open Go Go.Proofs.Ytfcpnjoiloahcaa.B Go.Proofs.Ytfcpnjoiloahcaa.Ls
set_option linter.unusedVariables false
set_option linter.unusedSimpArgs false

theorem xor_m1 (x : Int) (h0 : -9223372036854775808 ≤ x) (h1 : x ≤ 9223372036854775807) : Go.bits .xor .i64 (-1) x = -x - 1 := by
  rw [← xor_i64_m1 x h0 h1]
  unfold Go.bits
  simp only [BitVec.xor_comm]
theorem putl_mono (m n : Nat) (h : m ≤ n) : (putl m).length ≤ (putl n).length := by
  induction n using Nat.strongRecOn generalizing m with
  | ind n ih =>
    by_cases hn : n < 128
    · rw [putl_lt hn, putl_lt (show m < 128 by omega)]
      exact Nat.le_refl _
    · rw [putl_ge hn, List.length_cons]
      by_cases hm : m < 128
      · rw [putl_lt hm]
        simp
      · rw [putl_ge hm, List.length_cons]
        have := ih (n / 128) (by omega) (m / 128) (by omega)
        omega
theorem putl_pair (m : Nat) : (putl (2 * m)).length = (putl (2 * m + 1)).length := by
  by_cases h : m < 64
  · rw [putl_lt (show 2 * m < 128 by omega), putl_lt (show 2 * m + 1 < 128 by omega)]; rfl
  · rw [putl_ge (show ¬ 2 * m < 128 by omega), putl_ge (show ¬ 2 * m + 1 < 128 by omega), show (2 * m + 1) / 128 = 2 * m / 128 by omega]; rfl
theorem zig_flip (n : Int) (h0 : -9223372036854775808 ≤ n) (h1 : n ≤ 9223372036854775807) : (putl (zig n).toNat).length = (putl (zig (-n - 1)).toNat).length := by
  unfold zig
  by_cases h : n < 0
  · rw [if_pos h, if_neg (by omega)]
    have := putl_pair (-n - 1).toNat
    rw [show (2 * (-n - 1)).toNat = 2 * (-n - 1).toNat by omega, show (-2 * n - 1).toNat = 2 * (-n - 1).toNat + 1 by omega]
    exact this.symm
  · rw [if_neg h, if_pos (by omega)]
    have := putl_pair n.toNat
    rw [show (2 * n).toNat = 2 * n.toNat by omega, show (-2 * (-n - 1) - 1).toNat = 2 * n.toNat + 1 by omega]
    exact this
theorem putl_inj (m n : Nat) (h : putl m = putl n) : m = n := by
  induction n using Nat.strongRecOn generalizing m with
  | ind n ih =>
    by_cases hn : n < 128
    · by_cases hm : m < 128
      · rw [putl_lt hn, putl_lt hm] at h
        simp at h
        omega
      · rw [putl_lt hn, putl_ge hm] at h
        have := (putl_len (m / 128)).1
        have h2 := congrArg List.length h
        simp at h2
        rw [h2] at this
        simp at this
    · by_cases hm : m < 128
      · rw [putl_lt hm, putl_ge hn] at h
        have := (putl_len (n / 128)).1
        have h2 := congrArg List.length h
        simp at h2
        rw [h2] at this
        simp at this
      · rw [putl_ge hn, putl_ge hm] at h
        injection h with h1 h2
        have := ih (n / 128) (by omega) (m / 128) h2
        omega
theorem zig_inj (m n : Int) (h : zig m = zig n) : m = n := by
  unfold zig at h
  split at h <;> split at h <;> omega
theorem str_inj : ∀ (a b : List Int), By a → By b → strOfNums a = strOfNums b → a = b := by
  intro a b ha hb h
  have h1 : a.map (fun n => UInt8.ofNat n.toNat) = b.map (fun n => UInt8.ofNat n.toNat) := by
    unfold strOfNums at h
    injection h with h
    have := congrArg Array.toList h
    simpa using this
  clear h
  induction a generalizing b with
  | nil => cases b with
    | nil => rfl
    | cons y b => simp at h1
  | cons x a ih => cases b with
    | nil => simp at h1
    | cons y b =>
      simp only [List.map_cons, List.cons.injEq] at h1
      have hx := ha x List.mem_cons_self
      have hy := hb y List.mem_cons_self
      have e : x = y := by
        have := congrArg UInt8.toNat h1.1
        simp only [UInt8.toNat_ofNat'] at this
        omega
      rw [e, ih b (fun z hz => ha z (List.mem_cons_of_mem _ hz)) (fun z hz => hb z (List.mem_cons_of_mem _ hz)) h1.2]

theorem str_beq (a b : List Int) (ha : By a) (hb : By b) : ((strOfNums a).toList == (strOfNums b).toList) = (a == b) := by
  rw [Bool.eq_iff_iff, beq_iff_eq, beq_iff_eq, ByteArray.toList_eq, ByteArray.toList_eq]
  exact ⟨fun h => str_inj a b ha hb (by cases hx : strOfNums a; cases hy : strOfNums b; rw [hx, hy] at h; congr 1; exact Array.toList_inj.1 h), fun h => by rw [h]⟩
theorem numGo_putl (l0 rest : List Int) (m : Nat) : ∀ (i : Nat) (n : Int), i ≤ 9 → (m : Int) * 128 ^ i < 18446744073709551616 → (i = 0 ∨ 0 < m) → numGo l0 (putl m ++ rest) i n = (n + (m : Int) * 128 ^ i, rest, 0) := by
  induction m using Nat.strongRecOn with
  | ind m ih =>
    intro i n hi hm h0
    by_cases h : m < 128
    · rw [putl_lt h, List.singleton_append, numGo, if_neg, if_pos (by omega)]
      rintro (⟨rfl, h9⟩ | ⟨hp, hz⟩)
      · rw [pow9] at hm; omega
      · omega
    · have hi9 : i ≠ 9 := by
        rintro rfl
        rw [pow9] at hm
        omega
      have hdm : (m : Int) = (m % 128 : Nat) + 128 * ((m / 128 : Nat) : Int) := by omega
      have hsp : (m : Int) * 128 ^ i = ((m % 128 : Nat) : Int) * 128 ^ i + ((m / 128 : Nat) : Int) * 128 ^ (i + 1) := by
        rw [Int.pow_succ]
        conv => lhs; rw [hdm]
        rw [Int.add_mul, Int.mul_comm 128 ((m / 128 : Nat) : Int), Int.mul_assoc, Int.mul_comm 128]
      have hnn : 0 ≤ ((m % 128 : Nat) : Int) * 128 ^ i := Int.mul_nonneg (by omega) (Int.le_of_lt (pow_pos i))
      rw [putl_ge h, List.cons_append, numGo, if_neg (by omega), if_neg (by omega), ih (m / 128) (by omega) (i + 1) _ (by omega) (by omega) (.inr (by omega))]
      rw [show ((m % 128 + 128 : Nat) : Int) - 128 = (m % 128 : Nat) by omega, hsp, Int.add_assoc]
theorem num_putl (rest : List Int) (m : Nat) (h : m < 18446744073709551616) : num (putl m ++ rest) 0 = ((m : Int), rest, 0) := by
  unfold num
  rw [if_pos rfl, numGo_putl _ _ m 0 0 (by omega) (by rw [Int.pow_zero]; omega) (.inl rfl)]
  simp
theorem zag_zig (n : Int) (h0 : -9223372036854775808 ≤ n) (h1 : n ≤ 9223372036854775807) : zag (zig n) = n := by
  unfold zag zig
  by_cases h : n < 0
  · rw [if_pos h, if_pos (by omega)]; omega
  · rw [if_neg h, if_neg (by omega)]; omega

theorem numGo_one (l0 : List Int) : ∀ (l : List Int) (i : Nat) (n v : Int), By l → numGo l0 l i n = (v, [], 0) → ∃ m : Nat, v = n + (m : Int) * 128 ^ i ∧ l = putl m ∧ (0 < i → 0 < m)
  | [], _, _, _, _, h => by simp [numGo] at h
  | x :: r, i, n, v, hl, h => by
    have hx := hl x List.mem_cons_self
    rw [numGo] at h
    split at h
    · simp at h
    · rename_i hb
      split at h
      · rename_i h128
        simp only [Prod.mk.injEq, and_true] at h
        obtain ⟨rfl, rfl⟩ := h
        refine ⟨x.toNat, ?_, ?_, fun hi => by omega⟩
        · rw [Int.toNat_of_nonneg hx.1]
        · rw [putl_lt (by omega), Int.toNat_of_nonneg hx.1]
      · rename_i h128
        obtain ⟨m, h1, h2, h3⟩ := numGo_one l0 r (i + 1) _ v (fun y hy => hl y (List.mem_cons_of_mem _ hy)) h
        have hm := h3 (by omega)
        refine ⟨(x - 128).toNat + 128 * m, ?_, ?_, fun _ => by omega⟩
        · rw [h1, Int.pow_succ, show (((x - 128).toNat + 128 * m : Nat) : Int) = (x - 128) + 128 * (m : Int) by omega, Int.add_mul, Int.mul_comm 128 (m : Int), Int.mul_assoc, Int.mul_comm 128, Int.add_assoc]
        · rw [putl_ge (by omega), show ((x - 128).toNat + 128 * m) / 128 = m by omega, ← h2]
          congr 1
          omega
theorem num_one (l : List Int) (v : Int) (hl : By l) (h : num l 0 = (v, [], 0)) : l = putl v.toNat := by
  unfold num at h
  rw [if_pos rfl] at h
  obtain ⟨m, h1, h2, -⟩ := numGo_one l l 0 0 v hl h
  rw [h2]
  congr 1
  rw [Int.pow_zero] at h1
  omega
/-- A number is read off without a fault, or the fault is there. -/
theorem numGo_code (l0 : List Int) : ∀ (l : List Int) (i : Nat) (n : Int), (numGo l0 l i n).2.2 = 0 ∨ (numGo l0 l i n).2.2 = 3 ∨ (numGo l0 l i n).2.2 = 8
  | [], _, _ => by simp [numGo]
  | x :: r, i, n => by
    rw [numGo]
    split
    · simp
    · split
      · simp
      · exact numGo_code l0 r _ _
end Go.Proofs.Ytfcpnjoiloahcaa.Lt
namespace Go.Proofs.Ytfcpnjoiloahcaa.Gs
open Go Go.Proofs.Ytfcpnjoiloahcaa.B Go.Proofs.Ytfcpnjoiloahcaa.Ls Go.Proofs.Ytfcpnjoiloahcaa.Lt
set_option linter.unusedVariables false
set_option linter.unusedSimpArgs false
def crcBit (x : Int) : Int := if x % 2 = 1 then Go.bits .xor .u32 (x / 2) 3988292384 else x / 2
def crcBits : Nat → Int → Int
  | 0, x => x
  | n + 1, x => crcBits n (crcBit x)
def crcByte (x c : Int) : Int := crcBits 8 (Go.bits .xor .u32 x c)
def crcL (l : List Int) (x : Int) : Int := l.foldl crcByte x
def sumL (l : List Int) : Int := Go.bits .xor .u32 (crcL l 4294967295) 4294967295
def four (n : Int) : List Int := [n % 256, n / 256 % 256, n / 65536 % 256, n / 16777216]
def check (k : Int) (b : List Int) : List Int := four (sumL (k :: b))
def layL (k : Int) (b : List Int) : List Int := 111 :: k :: (putl b.length ++ (check k b ++ b))
theorem xor32_comm (x y : Int) : Go.bits .xor .u32 x y = Go.bits .xor .u32 y x := by
  unfold Go.bits
  simp only [BitVec.xor_comm]
theorem xor_range (x y : Int) : 0 ≤ Go.bits .xor .u32 x y ∧ Go.bits .xor .u32 x y < 4294967296 := by
  show 0 ≤ IntKind.u32.wrap _ ∧ IntKind.u32.wrap _ < 4294967296
  rw [IntKind.wrap_u32]
  omega
theorem xor32_0 (x : Int) (h0 : 0 ≤ x) (h1 : x < 4294967296) : Go.bits .xor .u32 x 0 = x := by
  show IntKind.u32.wrap ((BitVec.ofInt 32 x ^^^ BitVec.ofInt 32 0).toNat : Int) = x
  have e : BitVec.ofInt 32 0 = 0#32 := by decide
  rw [e, BitVec.xor_zero, BitVec.toNat_ofInt, IntKind.wrap_u32]
  omega
theorem xor32_m1 (x : Int) (h0 : 0 ≤ x) (h1 : x < 4294967296) : Go.bits .xor .u32 x 4294967295 = 4294967295 - x := by
  show IntKind.u32.wrap ((BitVec.ofInt 32 x ^^^ BitVec.ofInt 32 4294967295).toNat : Int) = _
  have e : BitVec.ofInt 32 4294967295 = BitVec.allOnes 32 := by decide
  rw [e, BitVec.xor_allOnes, BitVec.toNat_not, BitVec.toNat_ofInt, IntKind.wrap_u32]
  omega
theorem and32_1 (n : Int) (h0 : 0 ≤ n) (h1 : n < 4294967296) : Go.bits .and .u32 n 1 = n % 2 := by
  have := bits_mask .u32 32 (by decide) wraps_u32 1 (by decide) n h0 (by simpa using h1)
  simpa using this
theorem poly_and (x : Int) (h0 : 0 ≤ x) (h1 : x < 4294967296) : Go.bits .and .u32 3988292384 ((-(Go.bits .and .u32 x 1)) % 4294967296) = if x % 2 = 1 then 3988292384 else 0 := by
  rw [and32_1 x h0 h1]
  split
  · rename_i h
    rw [h]
    decide
  · rename_i h
    rw [show x % 2 = 0 by omega]
    decide
theorem crcBit_impl (x : Int) (h0 : 0 ≤ x) (h1 : x < 4294967296) : Go.bits .xor .u32 (x / 2) (if x % 2 = 1 then 3988292384 else 0) = crcBit x := by
  unfold crcBit
  split
  · rfl
  · exact xor32_0 _ (by omega) (by omega)
theorem crcBit_range (x : Int) (h0 : 0 ≤ x) (h1 : x < 4294967296) : 0 ≤ crcBit x ∧ crcBit x < 4294967296 := by
  unfold crcBit
  split
  · exact xor_range _ _
  · omega
theorem crcBits_range : ∀ (n : Nat) (x : Int), 0 ≤ x → x < 4294967296 → 0 ≤ crcBits n x ∧ crcBits n x < 4294967296
  | 0, _, h0, h1 => ⟨h0, h1⟩
  | n + 1, x, h0, h1 => crcBits_range n _ (crcBit_range x h0 h1).1 (crcBit_range x h0 h1).2
theorem crcByte_range (x c : Int) : 0 ≤ crcByte x c ∧ crcByte x c < 4294967296 := crcBits_range 8 _ (xor_range x c).1 (xor_range x c).2
theorem crcL_range : ∀ (l : List Int) (x : Int), 0 ≤ x → x < 4294967296 → 0 ≤ crcL l x ∧ crcL l x < 4294967296
  | [], _, h0, h1 => ⟨h0, h1⟩
  | c :: r, x, _, _ => crcL_range r (crcByte x c) (crcByte_range x c).1 (crcByte_range x c).2
theorem crcL_append (a b : List Int) (x : Int) : crcL (a ++ b) x = crcL b (crcL a x) := List.foldl_append
theorem crcL_take {l : List Int} {k : Nat} {c : Int} (x : Int) (h : l[k]? = some c) : crcL (l.take (k + 1)) x = crcByte (crcL (l.take k) x) c := by
  obtain ⟨hl, he⟩ := List.getElem?_eq_some_iff.1 h
  rw [List.take_succ_eq_append_getElem hl, he, crcL_append]
  rfl
theorem sumL_range (l : List Int) : 0 ≤ sumL l ∧ sumL l < 4294967296 := xor_range _ _
theorem four_by (n : Int) (h0 : 0 ≤ n) (h1 : n < 4294967296) : By (four n) := by
  intro x hx
  simp only [four, List.mem_cons, List.not_mem_nil, or_false] at hx
  omega
theorem check_by (k : Int) (b : List Int) : By (check k b) := four_by _ (sumL_range _).1 (sumL_range _).2
theorem check_len (k : Int) (b : List Int) : (check k b).length = 4 := rfl
theorem lay_by {k : Int} {b : List Int} (hk : 0 ≤ k ∧ k < 256) (hb : By b) : By (layL k b) := by
  intro x hx
  simp only [layL, List.mem_cons, List.mem_append] at hx
  rcases hx with rfl | rfl | hx | hx | hx
  · omega
  · exact hk
  · exact putl_by _ x hx
  · exact check_by _ _ x hx
  · exact hb x hx
theorem lay_len (k : Int) (b : List Int) : (layL k b).length = 6 + (putl b.length).length + b.length := by
  simp only [layL, List.length_cons, List.length_append, check_len]; omega
/-- A frame off bytes: its kind, its bytes, its length, the fault. -/
def takeL : List Int → Int × List Int × Int × Int
  | m :: k :: r =>
    if m ≠ 111 then (0, [], 0, 7) else
    if (num (r.take 10) 0).2.2 ≠ 0 then (0, [], 0, (num (r.take 10) 0).2.2) else
    if 65536 < (num (r.take 10) 0).1 then (0, [], 0, 4) else
    if (r.length : Int) < ((r.take 10).length - (num (r.take 10) 0).2.1.length : Nat) + 4 + (num (r.take 10) 0).1 then (0, [], 0, 3) else
    if check k ((r.drop ((r.take 10).length - (num (r.take 10) 0).2.1.length + 4)).take (num (r.take 10) 0).1.toNat) ≠ (r.drop ((r.take 10).length - (num (r.take 10) 0).2.1.length)).take 4 then (0, [], 0, 6) else
    (k, (r.drop ((r.take 10).length - (num (r.take 10) 0).2.1.length + 4)).take (num (r.take 10) 0).1.toNat, 2 + ((r.take 10).length - (num (r.take 10) 0).2.1.length : Nat) + 4 + (num (r.take 10) 0).1, 0)
  | _ => (0, [], 0, 3)
theorem numGo_any (l0 : List Int) : ∀ (l : List Int) (i : Nat) (n v : Int) (r : List Int), By l → numGo l0 l i n = (v, r, 0) → ∃ m : Nat, v = n + (m : Int) * 128 ^ i ∧ l = putl m ++ r ∧ (0 < i → 0 < m)
  | [], _, _, _, _, _, h => by simp [numGo] at h
  | x :: t, i, n, v, r, hl, h => by
    have hx := hl x List.mem_cons_self
    rw [numGo] at h
    split at h
    · simp at h
    · rename_i hb
      split at h
      · rename_i h128
        simp only [Prod.mk.injEq, and_true] at h
        obtain ⟨rfl, rfl⟩ := h
        refine ⟨x.toNat, ?_, ?_, fun hi => by omega⟩
        · rw [Int.toNat_of_nonneg hx.1]
        · rw [putl_lt (by omega), Int.toNat_of_nonneg hx.1]; rfl
      · rename_i h128
        obtain ⟨m, h1, h2, h3⟩ := numGo_any l0 t (i + 1) _ v r (fun y hy => hl y (List.mem_cons_of_mem _ hy)) h
        have hm := h3 (by omega)
        refine ⟨(x - 128).toNat + 128 * m, ?_, ?_, fun _ => by omega⟩
        · rw [h1, Int.pow_succ, show (((x - 128).toNat + 128 * m : Nat) : Int) = (x - 128) + 128 * (m : Int) by omega, Int.add_mul, Int.mul_comm 128 (m : Int), Int.mul_assoc, Int.mul_comm 128, Int.add_assoc]
        · rw [putl_ge (by omega), show ((x - 128).toNat + 128 * m) / 128 = m by omega, List.cons_append, ← h2]
          congr 1
          omega
theorem num_any (l : List Int) (v : Int) (r : List Int) (hl : By l) (h : num l 0 = (v, r, 0)) : l = putl v.toNat ++ r ∧ 0 ≤ v := by
  unfold num at h
  rw [if_pos rfl] at h
  obtain ⟨m, h1, h2, -⟩ := numGo_any l l 0 0 v r hl h
  rw [Int.pow_zero] at h1
  refine ⟨?_, by omega⟩
  rw [h2]
  congr 2
  omega
/-- A number that is cut short. -/
theorem numGo_cut (l0 : List Int) (m : Nat) : ∀ (i j : Nat) (n : Int), i ≤ 9 → (m : Int) * 128 ^ i < 18446744073709551616 → (i = 0 ∨ 0 < m) → j < (putl m).length → numGo l0 ((putl m).take j) i n = (0, l0, 3) := by
  induction m using Nat.strongRecOn with
  | ind m ih =>
    intro i j n hi hm h0 hj
    cases j with
    | zero => simp [numGo]
    | succ j =>
      by_cases hlt : m < 128
      · rw [putl_lt hlt] at hj
        simp at hj
      · rw [putl_ge hlt] at hj ⊢
        rw [List.length_cons] at hj
        rw [List.take_succ_cons, numGo]
        have hi9 : i ≠ 9 := fun h => by
          subst h
          rw [pow9] at hm
          omega
        rw [if_neg (by omega), if_neg (by omega)]
        refine ih (m / 128) (by omega) (i + 1) j _ (by omega) ?_ (.inr (by omega)) (by omega)
        have h1 := pow_pos i
        rw [Int.pow_succ, ← Int.mul_assoc, Int.mul_right_comm]
        refine Int.lt_of_le_of_lt (Int.mul_le_mul_of_nonneg_right ?_ (Int.le_of_lt h1)) hm
        omega
theorem num_cut (m j : Nat) (hm : m < 18446744073709551616) (hj : j < (putl m).length) : num ((putl m).take j) 0 = (0, (putl m).take j, 3) := by
  unfold num
  rw [if_pos rfl]
  exact numGo_cut _ m 0 j 0 (by omega) (by rw [Int.pow_zero]; omega) (.inl rfl) hj
theorem putl_three {n : Nat} (h : n ≤ 65536) : 0 < (putl n).length ∧ (putl n).length ≤ 3 := ⟨(putl_len n).1, (putl_len n).2 3 (by omega) (by omega)⟩
theorem take_lay {k : Int} {b rest : List Int} (hl : b.length ≤ 65536) : takeL (layL k b ++ rest) = (k, b, ((layL k b).length : Int), 0) := by
  obtain ⟨h1, h3⟩ := putl_three hl
  have e : layL k b ++ rest = 111 :: k :: (putl b.length ++ (check k b ++ (b ++ rest))) := by simp [layL]
  have e2 : (putl b.length ++ (check k b ++ (b ++ rest))).take 10 = putl b.length ++ (check k b ++ (b ++ rest)).take (10 - (putl b.length).length) := by
    rw [List.take_append, List.take_of_length_le (by omega)]
  rw [e]
  simp only [takeL, e2]
  rw [num_putl _ _ (by omega)]
  have e3 : (putl b.length ++ (check k b ++ (b ++ rest)).take (10 - (putl b.length).length)).length - ((check k b ++ (b ++ rest)).take (10 - (putl b.length).length)).length = (putl b.length).length := by
    rw [List.length_append]; omega
  simp only [e3]
  have e4 : ((putl b.length ++ (check k b ++ (b ++ rest))).drop ((putl b.length).length + 4)).take ((b.length : Int)).toNat = b := by
    rw [Int.toNat_natCast, List.drop_append, List.drop_of_length_le (by omega), List.nil_append, show (putl b.length).length + 4 - (putl b.length).length = 4 by omega]
    have h4 := check_len k b
    rw [← h4, List.drop_left, List.take_left]
  have e5 : ((putl b.length ++ (check k b ++ (b ++ rest))).drop (putl b.length).length).take 4 = check k b := by
    rw [List.drop_left]
    have h4 := check_len k b
    rw [← h4, List.take_left]
  rw [e4, e5, if_neg (by simp), if_neg (by simp), if_neg (by omega), if_neg (by simp only [List.length_append, check_len]; omega), if_neg (by simp)]
  rw [lay_len]
  congr 3
  omega
/-- What is taken was laid so. -/
theorem take_form {x : List Int} {k n : Int} {body : List Int} (hx : By x) (h : takeL x = (k, body, n, 0)) : x.take n.toNat = layL k body ∧ n = (layL k body).length ∧ body.length ≤ 65536 ∧ (0 ≤ k ∧ k < 256) ∧ By body ∧ n.toNat ≤ x.length := by
  match x, h with
  | [], h => simp [takeL] at h
  | [_], h => simp [takeL] at h
  | m :: k' :: r, h =>
    have hr : By r := fun y hy => hx y (by simp [hy])
    simp only [takeL] at h
    obtain ⟨v, left, c, hn⟩ : ∃ v left c, num (r.take 10) 0 = (v, left, c) := ⟨_, _, _, rfl⟩
    rw [hn] at h
    simp only at h
    split at h
    · simp at h
    rename_i h1
    split at h
    · rename_i hc; simp only [Prod.mk.injEq] at h; exact absurd h.2.2.2 hc
    rename_i h2
    split at h
    · simp at h
    rename_i h3
    split at h
    · simp at h
    rename_i h4
    split at h
    · simp at h
    rename_i h5
    have hc : c = 0 := by simpa using h2
    subst hc
    obtain ⟨hnum, hv0⟩ := num_any _ v left (hr.take 10) hn
    have hm : m = 111 := by simpa using h1
    subst hm
    have h5' := Classical.not_not.1 h5
    simp only [Prod.mk.injEq, and_true] at h
    obtain ⟨rfl, hbody, hsz⟩ := h
    have hul : (r.take 10).length - left.length = (putl v.toNat).length := by rw [hnum, List.length_append]; omega
    rw [hul] at h4 h5' hbody hsz
    obtain ⟨w, hw⟩ : ∃ w : Nat, v = w := ⟨v.toNat, by omega⟩
    subst hw
    rw [Int.toNat_natCast] at hul h4 h5' hbody hsz hnum
    have hrp : r = putl w ++ r.drop (putl w).length := by
      have h6 : r.take (putl w).length = putl w := by
        have h7 := congrArg (List.take (putl w).length) hnum
        rw [List.take_left, List.take_take, Nat.min_eq_left (by have := congrArg List.length hnum; rw [List.length_append, List.length_take] at this; omega)] at h7
        exact h7
      conv => lhs; rw [← List.take_append_drop (putl w).length r]
      rw [h6]
    have hbl : body.length = w := by
      rw [← hbody, List.length_take, List.length_drop]; omega
    rw [hbody] at h5'
    have hlay : 2 + (putl w).length + 4 + w = (layL k' body).length := by rw [lay_len, hbl]; omega
    refine ⟨?_, by omega, by omega, hx k' (by simp), by rw [← hbody]; exact (hr.drop _).take _, by simp only [List.length_cons]; omega⟩
    have hnn : n.toNat = (putl w).length + 4 + w + 2 := by omega
    rw [hnn, List.take_succ_cons, List.take_succ_cons, layL, hbl]
    congr 2
    conv => lhs; rw [hrp]
    rw [Nat.add_assoc, List.take_append, List.take_of_length_le (by omega), Nat.add_sub_cancel_left]
    congr 1
    rw [List.take_add, h5', List.drop_drop]
    congr 1
theorem take_cut {k : Int} {b : List Int} (hl : b.length ≤ 65536) {j : Nat} (hj : j < (layL k b).length) : (takeL ((layL k b).take j)).2.2.2 = 3 := by
  obtain ⟨h1, h3⟩ := putl_three hl
  rw [lay_len] at hj
  match j with
  | 0 => rfl
  | 1 => rfl
  | j + 2 =>
    rw [layL, List.take_succ_cons, List.take_succ_cons]
    simp only [takeL]
    rw [if_neg (by simp)]
    rcases Nat.lt_or_ge j (putl b.length).length with hlt | hge
    · have e : ((putl b.length ++ (check k b ++ b)).take j).take 10 = (putl b.length).take j := by
        rw [List.take_take, List.take_append_of_le_length (by omega)]
        congr 1
        omega
      rw [e, num_cut _ _ (by omega) hlt]
      rfl
    · have e : ((putl b.length ++ (check k b ++ b)).take j).take 10 = putl b.length ++ ((check k b ++ b).take (j - (putl b.length).length)).take (10 - (putl b.length).length) := by
        rw [List.take_append, List.take_of_length_le hge, List.take_append, List.take_of_length_le (by omega)]
      rw [e, num_putl _ _ (by omega), if_neg (by simp), if_neg (by simp only; omega), if_pos]
      simp only [List.length_append, List.length_take, check_len]
      omega
theorem xor_bit_all : (List.range 256).all (fun y => (List.range 8).all fun j => Go.bits .xor .u8 (y : Int) ((2 : Int) ^ j % 256) != (y : Int)) = true := by decide +kernel
theorem xor_bit (y : Int) (h0 : 0 ≤ y) (h1 : y < 256) (j : Nat) (hj : j < 8) : Go.bits .xor .u8 y ((2 : Int) ^ j % 256) ≠ y := by
  obtain ⟨n, rfl⟩ : ∃ n : Nat, y = n := ⟨y.toNat, by omega⟩
  have h := List.all_eq_true.1 xor_bit_all n (List.mem_range.2 (by omega))
  have h2 := List.all_eq_true.1 h j (List.mem_range.2 hj)
  simpa using h2
theorem xor8_range (x y : Int) : 0 ≤ Go.bits .xor .u8 x y ∧ Go.bits .xor .u8 x y < 256 := by
  show 0 ≤ IntKind.u8.wrap _ ∧ IntKind.u8.wrap _ < 256
  rw [IntKind.wrap_u8]
  omega
/-- With a byte turned it isn't taken as it was. -/
theorem take_turned {k : Int} {b : List Int} {i : Nat} {y z : Int} {n : Int} (hz : (layL k b)[i]? = some z) (hne : y ≠ z) (hby : By ((layL k b).set i y)) : takeL ((layL k b).set i y) ≠ (k, b, n, 0) := by
  intro h
  obtain ⟨h1, h2, -, -, -, -⟩ := take_form hby h
  have hl : ((layL k b).set i y).length = (layL k b).length := List.length_set
  rw [h2, Int.toNat_natCast, ← hl, List.take_length] at h1
  have h3 := congrArg (fun l => l[i]?) h1
  simp only [hz] at h3
  have hi := (List.getElem?_eq_some_iff.1 hz).1
  rw [List.getElem?_set_self hi] at h3
  exact hne (Option.some.inj h3)
theorem lay_prefix {k k' : Int} {b b' : List Int} (hl : b.length ≤ 65536) (hl' : b'.length ≤ 65536) (h : (layL k' b').take (layL k b).length = layL k b) : k = k' ∧ b = b' := by
  have e : layL k' b' = layL k b ++ (layL k' b').drop (layL k b).length := by
    conv => lhs; rw [← List.take_append_drop (layL k b).length (layL k' b'), h]
  have h1 := take_lay (k := k') (b := b') (rest := []) hl'
  rw [List.append_nil, e, take_lay hl] at h1
  simp only [Prod.mk.injEq] at h1
  exact ⟨h1.1, h1.2.1⟩
theorem lay_apart {k k' : Int} {b b' : List Int} {n : Nat} (hl : b.length ≤ 65536) (hl' : b'.length ≤ 65536) (hn : n = min (layL k b).length (layL k' b').length) (h : (layL k b).take n = (layL k' b').take n) : k = k' ∧ b = b' := by
  rcases Nat.le_total (layL k b).length (layL k' b').length with h1 | h1
  · rw [Nat.min_eq_left h1] at hn
    subst hn
    rw [List.take_length] at h
    exact lay_prefix hl hl' h.symm
  · rw [Nat.min_eq_right h1] at hn
    subst hn
    rw [List.take_length] at h
    obtain ⟨h2, h3⟩ := lay_prefix hl' hl h
    exact ⟨h2.symm, h3.symm⟩
/-- The frames with which bytes begin; how long they are. -/
inductive AllR : List Int → List (Int × List Int) → Nat → Prop
  | stop {b : List Int} : (takeL b).2.2.2 ≠ 0 → AllR b [] 0
  | step {b : List Int} {k : Int} {body : List Int} {n : Nat} {l : List (Int × List Int)} {m : Nat} : takeL b = (k, body, (n : Int), 0) → AllR (b.drop n) l m → AllR b ((k, body) :: l) (n + m)
theorem AllR.same {b : List Int} {l l' : List (Int × List Int)} {m m' : Nat} (h : AllR b l m) (h' : AllR b l' m') : l = l' ∧ m = m' := by
  induction h generalizing l' m' with
  | stop h =>
    cases h' with
    | stop _ => exact ⟨rfl, rfl⟩
    | step h2 _ => rw [h2] at h; exact absurd rfl h
  | step h _ ih =>
    cases h' with
    | stop h2 => rw [h] at h2; exact absurd rfl h2
    | step h2 h3 =>
      rw [h] at h2
      simp only [Prod.mk.injEq, and_true] at h2
      obtain ⟨rfl, rfl, h2⟩ := h2
      have h2 := Int.ofNat.inj h2
      subst h2
      obtain ⟨rfl, rfl⟩ := ih h3
      exact ⟨rfl, rfl⟩
def laysL (l : List (Int × List Int)) : List Int := (l.map fun p => layL p.1 p.2).flatten
theorem AllR.lays {b : List Int} {l : List (Int × List Int)} {m : Nat} (h : AllR b l m) (hb : By b) : laysL l = b.take m ∧ m ≤ b.length ∧ ∀ p ∈ l, (0 ≤ p.1 ∧ p.1 < 256) ∧ By p.2 ∧ p.2.length ≤ 65536 := by
  induction h with
  | stop _ => exact ⟨rfl, Nat.zero_le _, fun p hp => by cases hp⟩
  | step h h2 ih =>
    obtain ⟨h3, h4, h5, h6, h7, h8⟩ := take_form hb h
    rw [Int.toNat_natCast] at h3 h8
    obtain ⟨i1, i2, i3⟩ := ih (hb.drop _)
    rw [List.length_drop] at i2
    refine ⟨?_, by omega, fun p hp => ?_⟩
    · rw [laysL, List.map_cons, List.flatten_cons, ← h3, List.take_add]
      congr 1
    · rcases List.mem_cons.1 hp with rfl | hp
      · exact ⟨h6, h7, h5⟩
      · exact i3 p hp
theorem AllR.starts {rest : List Int} : ∀ {l : List (Int × List Int)} {got : List (Int × List Int)} {n : Nat}, (∀ p ∈ l, p.2.length ≤ 65536) → AllR (laysL l ++ rest) got n → l.length ≤ got.length
  | [], _, _, _, _ => Nat.zero_le _
  | p :: l, got, n, hl, h => by
    have e : laysL (p :: l) ++ rest = layL p.1 p.2 ++ (laysL l ++ rest) := by simp [laysL]
    rw [e] at h
    have ht := take_lay (k := p.1) (rest := laysL l ++ rest) (hl p (by simp))
    cases h with
    | stop h2 => rw [ht] at h2; exact absurd rfl h2
    | step h2 h3 =>
      rw [ht] at h2
      simp only [Prod.mk.injEq, and_true] at h2
      have h4 := Int.ofNat.inj h2.2.2
      rw [← h4, List.drop_left] at h3
      have := AllR.starts (fun q hq => hl q (by simp [hq])) h3
      simp only [List.length_cons]
      omega
end Go.Proofs.Ytfcpnjoiloahcaa.Gs
namespace Go.Proofs.Ytfcpnjoiloahcaa.Gc
open Go.RowKit Go.Proofs.YtfcpnjoiloahcaaW.PrintWords Go.Proofs.YtfcpnjoiloahcaaW.PrintLast Go.Proofs.YtfcpnjoiloahcaaW.PrintMore Go.Proofs.Ytfcpnjoiloahcaa.B Go.Proofs.Ytfcpnjoiloahcaa.Ls Go.Proofs.Ytfcpnjoiloahcaa.Gs Go.Proofs.Ytfcpnjoiloahcaa.S
set_option linter.unusedVariables false
set_option linter.unusedSimpArgs false
theorem infoU8 : (Try.prog.info? 5).map (fun i => (i.zero, i.size, i.bytes)) = some (some (.int .u8 0), 1, 1) := by kernel_rfl
abbrev kL : Kd (List Int) := Kd.slice 5 kU8
theorem kL_get {w : World} {ad : Addr} {n : Nat} {ps : List (List Int)} (h : kL.C w (some ad) n ps) {k : Nat} {l : List Int} (hk : ps[k]? = some l) : ∃ A c, w.cell? (ad.add k) = some (.slice A l.length c) ∧ l.length ≤ c ∧ kU8.C w A l.length l := by
  have hj := (List.getElem?_eq_some_iff.1 hk).1
  obtain ⟨ad', e, hc⟩ := h.2.2 (by have := h.1; omega)
  injection e with e
  subst e
  obtain ⟨cs, h1, ⟨A, c, rfl, h2, h3⟩, h4⟩ := hc k l hk
  have g0 := h4 0 _ rfl
  have hs : kL.sz = 1 := rfl
  rw [hs, Nat.mul_one, Nat.add_zero] at g0
  exact ⟨A, c, g0, h2, h3⟩
set_option maxHeartbeats 4000000 in
set_option maxRecDepth 100000 in
theorem sum_calls (A : Option Addr) (c : Nat) (ps : List (List Int)) (w : World) (hC : kL.C w A ps.length ps) (hby : ∀ l ∈ ps, By l) :
    Calls Try.prog 69 #[.slice A ps.length c] w fun e w' => e = .returned (.int .u32 (sumL ps.flatten)) ∧ w = w' := by
  have HC := Aside0.mk hC
  have HBY := Aside0.mk hby
  have hpl := hC.2.1
  clear hC hby
  go_enter Try.func69, Try.ntmps69
  go_wp2_with fail
  go_loopw [3, 10] (fun vx vi wr => wr = w ∧ ∃ (k : Nat) (x : Int), k ≤ ps.length ∧ vi = .int .i64 k ∧ vx = .int .u32 x ∧ 0 ≤ x ∧ x < 4294967296 ∧ Aside0 (x = crcL (ps.take k).flatten 4294967295)) (fun _ vi _ => ps.length - (intOf vi).toNat)
  case atStart => exact ⟨rfl, 0, _, by omega, rfl, rfl, by decide, by decide, ⟨rfl⟩⟩
  case round =>
    obtain ⟨rfl, k, x, hk, rfl, rfl, hx0, hx1, HX⟩ := hrel
    by_cases hlt : k < ps.length
    · obtain ⟨l, hl⟩ : ∃ l, ps[k]? = some l := ⟨_, List.getElem?_eq_getElem hlt⟩
      obtain ⟨ad, rfl⟩ : ∃ ad, A = some ad := by obtain ⟨ad, e, _⟩ := HC.out.2.2 (by omega); exact ⟨ad, e⟩
      obtain ⟨A1, c1, q1, hc1, hC1⟩ := kL_get HC.out hl
      have HC1 := Aside0.mk hC1
      have hll := hC1.2.1
      have HL := Aside0.mk (show crcL (ps.take (k + 1)).flatten 4294967295 = crcL l x by
        obtain ⟨hl1, hl2⟩ := List.getElem?_eq_some_iff.1 hl
        rw [List.take_succ_eq_append_getElem hl1, hl2, List.flatten_append, crcL_append, ← HX.out]
        simp)
      have HB1 := Aside0.mk (HBY.out l (List.mem_of_getElem? hl))
      clear hC1 hl HX
      go_wp2_with fail
      go_loopw [3, 16] (fun vx vi wr' => wr' = wr ∧ ∃ (i : Nat) (y : Int), i ≤ l.length ∧ vi = .int .i64 i ∧ vx = .int .u32 y ∧ 0 ≤ y ∧ y < 4294967296 ∧ Aside0 (y = crcL (l.take i) x)) (fun _ vi _ => l.length - (intOf vi).toNat)
      case atStart => exact ⟨rfl, 0, x, by omega, rfl, rfl, hx0, hx1, ⟨rfl⟩⟩
      case round =>
        obtain ⟨rfl, i, y, hi, rfl, rfl, hy0, hy1, HY⟩ := hrel
        by_cases hil : i < l.length
        · obtain ⟨b, hb⟩ : ∃ b, l[i]? = some b := ⟨_, List.getElem?_eq_getElem hil⟩
          obtain ⟨ad1, rfl⟩ : ∃ ad, A1 = some ad := by obtain ⟨ad, e, _⟩ := HC1.out.2.2 (by omega); exact ⟨ad, e⟩
          have q2 := C_cell HC1.out hb
          obtain ⟨hb0, hb1⟩ := HB1.out.at hb
          have HT := Aside0.mk (show crcL (l.take (i + 1)) x = crcByte y b by rw [crcL_take x hb, HY.out])
          clear hb HY
          go_wp2_with fail
          have hxr := xor_range y b
          obtain ⟨z0, hz0⟩ : ∃ z, Go.bits .xor .u32 y b = z := ⟨_, rfl⟩
          rw [hz0] at hxr
          rw [hz0]
          have HZ := Aside0.mk hz0
          clear hz0
          obtain ⟨hz00, hz01⟩ := hxr
          go_loopw [3, 24] (fun vx vi wr' => wr' = wr ∧ ∃ (j : Nat) (z : Int), j ≤ 8 ∧ vi = .int .i64 j ∧ vx = .int .u32 z ∧ 0 ≤ z ∧ z < 4294967296 ∧ Aside0 (crcBits (8 - j) z = crcByte y b)) (fun _ vi _ => 8 - (intOf vi).toNat)
          case atStart => exact ⟨rfl, 0, z0, by omega, rfl, rfl, hz00, hz01, ⟨by rw [← HZ.out]; rfl⟩⟩
          case round =>
            obtain ⟨rfl, j, z, hj, rfl, rfl, hz0, hz1, HZ⟩ := hrel
            by_cases hj8 : j < 8
            · go_wp2
              go_roundw
              case rel =>
                have hT : Go.bits .xor .u32 (z / 2) (Go.bits .and .u32 3988292384 ((-(Go.bits .and .u32 z 1)) % 4294967296)) = crcBit z := by rw [poly_and z hz0 hz1, crcBit_impl z hz0 hz1]
                rw [hT]
                have hr := crcBit_range z hz0 hz1
                exact ⟨by first | rfl | trivial, j + 1, _, by omega, by go_num, rfl, hr.1, hr.2, ⟨by rw [← HZ.out, show 8 - j = (8 - (j + 1)) + 1 by omega]; rfl⟩⟩
              case measure => simp [intOf]; omega
            · have hje : j = 8 := by omega
              subst hje
              go_wp2
              go_roundw
              case rel => exact ⟨by first | rfl | trivial, i + 1, z, by omega, by go_num, rfl, hz0, hz1, ⟨by rw [HT.out, ← HZ.out]; rfl⟩⟩
              case measure => simp [intOf]; omega
        · have hie : i = l.length := by omega
          subst hie
          go_wp2
          go_roundw
          case rel => exact ⟨by first | rfl | trivial, k + 1, y, by omega, by go_num, rfl, hy0, hy1, ⟨by rw [HL.out, HY.out, List.take_length]⟩⟩
          case measure => simp [intOf]; omega
    · have hke : k = ps.length := by omega
      subst hke
      go_wp2
      go_ret
      rw [List.take_length] at HX
      refine ⟨?_, rfl⟩
      rw [sumL, ← HX.out, xor32_comm]
      rfl
end Go.Proofs.Ytfcpnjoiloahcaa.Gc
namespace Go.Proofs.Ytfcpnjoiloahcaa.Lc
open Go.RowKit Go.Proofs.YtfcpnjoiloahcaaW.PrintWords Go.Proofs.YtfcpnjoiloahcaaW.PrintLast Go.Proofs.YtfcpnjoiloahcaaW.PrintMore Go.Proofs.Ytfcpnjoiloahcaa.B Go.Proofs.Ytfcpnjoiloahcaa.Ls
set_option linter.unusedVariables false
set_option linter.unusedSimpArgs false
theorem infoU8 : (Try.prog.info? 5).map (fun i => (i.zero, i.size, i.bytes)) = some (some (.int .u8 0), 1, 1) := by kernel_rfl

/-! ### leb.Reader -/
theorem fail_calls (g b : Nat) (l : List Int) (code n : Int) (w : World) (h : Rdr 122 w g b l code) :
    Calls Try.prog 70 #[.pointer (some ⟨g, 0, none⟩), .int .i64 n] w fun e w' => e = .returned (.tuple #[]) ∧ Rdr 122 w' g b l (failed n code) ∧ Keep (· = g) w w' ∧ w'.heap.size = w.heap.size := by
  have HR := Aside0.mk h
  obtain ⟨A, c, hb, -⟩ := h
  have hc1 : w.cell? ⟨g, 1, none⟩ = some (.int .i64 code) := by simp [World.cell?, hb]
  have hf1 := blk_frozen hb 1
  clear hb
  by_cases h0 : code = 0
  · have h1 : (code == 0) = true := beq_iff_eq.mpr h0
    have h2 : failed n code = n := if_pos h0
    have H2 := Aside0.mk h2
    clear h0 h2
    go_enter Try.func70, Try.ntmps70
    go_wp2
    first | go_end0 | ((try simp only [Exit.inBlock, Exit.then]); refine bodyPost_ret (results_none rfl _ _ _) rfl ?_)
    exact ⟨rfl, by rw [H2.out]; exact HR.out.set n, (Keep.refl _ _).setCell _ _ (fun _ => rfl), by simp [World.setCell]⟩
  · have h1 : (code == 0) = false := beq_eq_false_iff_ne.mpr h0
    have h2 : failed n code = code := if_neg h0
    have H2 := Aside0.mk h2
    clear h0 h2
    go_enter Try.func70, Try.ntmps70
    go_wp2
    first | go_end0 | ((try simp only [Exit.inBlock, Exit.then]); refine bodyPost_ret (results_none rfl _ _ _) rfl ?_)
    exact ⟨rfl, by rw [H2.out]; exact HR.out, Keep.refl _ _, rfl⟩

set_option maxRecDepth 100000 in
set_option maxHeartbeats 4000000 in
theorem num_calls (g b : Nat) (l : List Int) (code : Int) (w : World) (h : Rdr 122 w g b l code) (hby : By l) :
    Calls Try.prog 56 #[.pointer (some ⟨g, 0, none⟩)] w fun e w' => e = .returned (.int .u64 (num l code).1) ∧ Rdr 122 w' g b (num l code).2.1 (num l code).2.2 ∧ Keep (· = g) w w' ∧ w'.heap.size = w.heap.size := by
  have HR := Aside0.mk h
  obtain ⟨A, c, hb, hlc, hA, hC, hne⟩ := h
  have hc0 : w.cell? ⟨g, 0, none⟩ = some (.slice A l.length c) := by simp [World.cell?, hb]
  have hc1 : w.cell? ⟨g, 1, none⟩ = some (.int .i64 code) := by simp [World.cell?, hb]
  have hf0 := blk_frozen hb 0
  have HB := Aside0.mk hb
  have HC := Aside0.mk hC
  have HA := Aside0.mk hA
  have HY := Aside0.mk hby
  clear hb hC hA hby
  by_cases h0 : code = 0
  · subst h0
    have HN : Aside0 (num l 0 = numGo l (l.drop 0) 0 0) := ⟨rfl⟩
    have hmax : l.length ≤ 9223372036854775807 := HC.out.2.1
    go_enter Try.func56, Try.ntmps56
    go_wp2
    go_loopw [3, 4] (fun n i wr => ∃ (k : Nat) (N : Int), k ≤ l.length + 1 ∧ i = .int .i64 k ∧ n = .int .u64 N ∧ Aside0 ((k ≤ l.length ∧ k ≤ 9 ∧ 0 ≤ N ∧ N < 128 ^ k ∧ num l 0 = numGo l (l.drop k) k N ∧ wr = w) ∨ (∃ e, e ≠ 0 ∧ num l 0 = (0, l, e) ∧ Rdr 122 wr g b l e ∧ Keep (· = g) w wr ∧ wr.heap.size = w.heap.size))) (fun _ i _ => l.length + 1 - (intOf i).toNat)
    case atStart => exact ⟨0, 0, by omega, rfl, rfl, ⟨.inl ⟨by omega, by omega, by decide, by decide, HN.out, rfl⟩⟩⟩
    case round =>
      clear HN
      obtain ⟨k, N, hk1, rfl, rfl, HD⟩ := hrel
      rcases HD.out with ⟨hk, hk9, hN0, hN1, hN, rfl⟩ | ⟨e, he, hN, hr, hkp, hsz⟩
      · clear HD
        by_cases hlt : k < l.length
        · obtain ⟨ad, rfl⟩ := C_some HC.out (by omega)
          obtain ⟨x, hx⟩ : ∃ x, l[k]? = some x := ⟨_, List.getElem?_eq_getElem hlt⟩
          have hcx := C_cell HC.out hx
          obtain ⟨hx0, hx1⟩ := HY.out.at hx
          have hd : l.drop k = x :: l.drop (k + 1) := by rw [List.drop_eq_getElem_cons hlt]; congr 1; simpa [List.getElem?_eq_getElem hlt] using hx
          rw [hd, numGo] at hN
          clear hd
          have HX := Aside0.mk hx
          clear hx
          by_cases hb1 : (k = 9 ∧ 1 < x) ∨ (0 < k ∧ x = 0)
          · rw [if_pos hb1] at hN
            have HN := Aside0.mk hN
            clear hN
            by_cases h9 : k = 9 ∧ 1 < x
            · have h9a : ((k : Int) == 9) = true := by rw [beq_iff_eq]; omega
              have h9b : decide (1 < x) = true := by simp; omega
              clear hb1 h9
              go_wp2_with (first | (go_at_call 70; refine (fail_calls g b l 0 8 _ HR.out).mono ?_; rintro e w1 ⟨rfl, hr1, hk1, hs1⟩))
              go_roundw
              case rel => exact ⟨k + 1, N, by omega, by go_num, rfl, ⟨.inr ⟨8, by decide, HN.out, hr1, hk1, hs1⟩⟩⟩
              case measure => simp [intOf]; omega
            · have h9a : 0 < k := by omega
              have h9c : x = 0 := by omega
              subst h9c
              by_cases h9 : k = 9
              · have h9a : ((k : Int) == 9) = true := by rw [beq_iff_eq]; omega
                clear hb1 h9
                go_wp2_with (first | (go_at_call 70; refine (fail_calls g b l 0 8 _ HR.out).mono ?_; rintro e w1 ⟨rfl, hr1, hk1, hs1⟩))
                go_roundw
                case rel => exact ⟨k + 1, N, by omega, by go_num, rfl, ⟨.inr ⟨8, by decide, HN.out, hr1, hk1, hs1⟩⟩⟩
                case measure => simp [intOf]; omega
              · have h9a : ((k : Int) == 9) = false := by rw [beq_eq_false_iff_ne]; omega
                clear hb1 h9
                go_wp2_with (first | (go_at_call 70; refine (fail_calls g b l 0 8 _ HR.out).mono ?_; rintro e w1 ⟨rfl, hr1, hk1, hs1⟩))
                go_roundw
                case rel => exact ⟨k + 1, N, by omega, by go_num, rfl, ⟨.inr ⟨8, by decide, HN.out, hr1, hk1, hs1⟩⟩⟩
                case measure => simp [intOf]; omega
          · rw [if_neg hb1] at hN
            have hw := wraps_u64 x hx0 (by rw [two64]; omega)
            have hN2 : N < 18446744073709551616 := by
              have := pow_le k 9 hk9
              rw [pow9] at this
              omega
            have key : (((k : Int) == 9) = true ∧ decide (1 < x) = false ∧ 0 < k ∧ (x == 0) = false) ∨ (((k : Int) == 9) = false ∧ 0 < k ∧ (x == 0) = false) ∨ (((k : Int) == 9) = false ∧ ¬ 0 < k) := by
              by_cases h9 : k = 9
              · exact .inl ⟨by rw [beq_iff_eq]; omega, by simp; omega, by omega, by rw [beq_eq_false_iff_ne]; omega⟩
              · by_cases hp : 0 < k
                · exact .inr (.inl ⟨by rw [beq_eq_false_iff_ne]; omega, hp, by rw [beq_eq_false_iff_ne]; omega⟩)
                · exact .inr (.inr ⟨by rw [beq_eq_false_iff_ne]; omega, hp⟩)
            by_cases h128 : x < 128
            · rw [if_pos h128] at hN
              have hmx := go_max k hk9 x hx0 h128 (by omega)
              have hv := or_add k N x hN0 hN1 hN2 hx0 hmx
              obtain ⟨i5, hi5, -, hi5s, -⟩ := info_ex infoU8
              obtain ⟨A', hrun, hC', hblk, hlc'⟩ := sl_from kU8 24 5 .i64 Try.underlying24 hi5 (some ad) c l hi5s ((k : Int) + 1) (by omega) (by omega) hlc
              rw [show ((k : Int) + 1).toNat = k + 1 by omega] at hrun hC' hlc'
              have HN := Aside0.mk hN
              have HW := Aside0.mk hw
              have HV := Aside0.mk hv
              have HC' := Aside0.mk (hC' _ HC.out)
              have HBL := Aside0.mk hblk
              have HMX := Aside0.mk hmx
              have HN1 := Aside0.mk hN1
              clear hN hw hv hC' hblk hi5 hi5s hb1 hmx hN1 hN2
              rcases key with ⟨f1, f2, f3, f4⟩ | ⟨f1, f3, f4⟩ | ⟨f1, f3⟩
              all_goals
                go_wp2
                go_ret
                refine ⟨ret_eq ?_, ?_, (Keep.refl _ _).setCell _ _ (fun _ => rfl), by simp [World.setCell]⟩
                · rw [HV.out, HN.out]
                · rw [HN.out]; have hcut := Rdr.cut HB.out HA.out hne hlc' HBL.out HC'.out
                  rw [List.length_drop] at hcut
                  exact hcut
            · rw [if_neg h128] at hN
              have hv := or_add k N (x - 128) hN0 hN1 hN2 (by omega) (go_max k hk9 (x - 128) (by omega) (by omega) (by omega))
              have hlt2 := go_lt k N (x - 128) hN1 (by omega)
              have hn0 : 0 ≤ N + (x - 128) * 128 ^ k := by
                have := Int.mul_nonneg (show 0 ≤ x - 128 by omega) (Int.le_of_lt (pow_pos k))
                omega
              have hw2 := wraps_u64 (x - 128) (by omega) (by rw [two64]; omega)
              have ha := and127 x (by omega) hx1
              have hk8 : k < 9 := by omega
              have HN := Aside0.mk hN
              have HW := Aside0.mk hw2
              have HV := Aside0.mk hv
              have HA2 := Aside0.mk ha
              have HLT := Aside0.mk hlt2
              have HN0 := Aside0.mk hn0
              clear hN hw hw2 hv ha hlt2 hb1 hN1 hN2 hn0
              rcases key with ⟨f1, f2, f3, f4⟩ | ⟨f1, f3, f4⟩ | ⟨f1, f3⟩
              all_goals
                go_wp2
                go_roundw
                case rel => exact ⟨k + 1, _, by omega, by go_num, by first | rw [HA2.out, HV.out] | rw [HA2.out, HW.out, HV.out], ⟨.inl ⟨by omega, by omega, HN0.out, HLT.out, HN.out, by first | rfl | trivial⟩⟩⟩
                case measure => simp [intOf]; omega
        · have hkl : k = l.length := by omega
          have hd : l.drop k = [] := by rw [List.drop_eq_nil_iff]; omega
          rw [hd, numGo] at hN
          have HN := Aside0.mk hN
          clear hd hN hN1
          have hge : l.length ≤ k := by omega
          clear hkl
          go_wp2_with (first | (go_at_call 70; refine (fail_calls g b l 0 3 _ HR.out).mono ?_; rintro e w1 ⟨rfl, hr1, hk1, hs1⟩))
          go_roundw
          case rel => exact ⟨k + 1, N, by omega, by go_num, rfl, ⟨.inr ⟨3, by decide, HN.out, hr1, hk1, hs1⟩⟩⟩
          case measure => simp [intOf]; omega
      · clear HD
        have HN := Aside0.mk hN
        have HR2 := Aside0.mk hr
        have HK := Aside0.mk hkp
        have HS := Aside0.mk hsz
        obtain ⟨A2, c2, hb2, -⟩ := hr
        have hc2 : wr.cell? ⟨g, 1, none⟩ = some (.int .i64 e) := by simp [World.cell?, hb2]
        have he2 : (e == 0) = false := beq_eq_false_iff_ne.mpr he
        clear hN hkp hsz hb2 he hc0 hc1
        go_wp2
        go_ret
        exact ⟨ret_eq (by rw [HN.out]), by rw [HN.out]; exact HR2.out, HK.out, HS.out⟩
  · have h1 : (code == 0) = false := beq_eq_false_iff_ne.mpr h0
    have h2 : num l code = (0, l, code) := if_neg h0
    have H2 := Aside0.mk h2
    clear h0 h2
    go_enter Try.func56, Try.ntmps56
    go_wp2
    go_loopw [3, 4] (fun n i wr => ∃ k : Nat, n = .int .u64 0 ∧ i = .int .i64 0 ∧ wr = w) (fun _ i _ => 0)
    case atStart => exact ⟨0, rfl, rfl, rfl⟩
    case round =>
      obtain ⟨-, rfl, rfl, rfl⟩ := hrel
      go_wp2
      go_ret
      exact ⟨ret_eq (by rw [H2.out]), by rw [H2.out]; exact HR.out, Keep.refl _ _, rfl⟩
end Go.Proofs.Ytfcpnjoiloahcaa.Lc
namespace Go.Proofs.Ytfcpnjoiloahcaa.Lc
open Go.RowKit Go.Proofs.YtfcpnjoiloahcaaW.PrintWords Go.Proofs.YtfcpnjoiloahcaaW.PrintLast Go.Proofs.YtfcpnjoiloahcaaW.PrintMore Go.Proofs.Ytfcpnjoiloahcaa.B Go.Proofs.Ytfcpnjoiloahcaa.Ls
set_option linter.unusedVariables false
set_option linter.unusedSimpArgs false

theorem new_calls (A : Option Addr) (c : Nat) (l : List Int) (w : World) (hC : kU8.C w A l.length l) (hll : l.length ≤ 140737488355328) :
    Calls Try.prog 55 #[.slice A l.length c] w fun e w' => ∃ g b, e = .returned (.pointer (some ⟨g, 0, none⟩)) ∧ Rdr 122 w' g b l 0 ∧ Below w.heap.size w w' ∧ w.heap.size ≤ g ∧ w.heap.size ≤ b ∧ b < w'.heap.size := by
  have HC := Aside0.mk hC
  clear hC
  go_enter Try.func55, Try.ntmps55
  go_wp2_with (first | ((with_reducible refine gate_builtin (b := .append) (xs := #[.tmp 3, .tmp 4]) rfl ?_); at_builtin; refine Kd.R_append_rows (Kd.int .u8) (w0 := w) w.heap.size rfl (.tmp 3) (.tmp 4) 24 5 (.int .u8 0) 1 rfl Try.underlying24 infoU8 rfl (by decide) (by omega) (.slice (some ⟨w.heap.size, 0, none⟩) 0 0) ([] : List Int) l _ _ _ (fun _ => True) (fun _ => False) rfl rfl ?aO ?aR (fun _ _ h => h) (fun _ h => h.elim) ?aF ?aB ?aS ?aL ?_; (case aR => exact Kd.C_alloc HC.out _); (case aB => exact (Below.refl _ _).alloc (Nat.le_refl _) _); (case aF => exact (fun _ _ => trivial)); (case aO => exact R_lit0 kU8 5 w); (case aS => simp); (case aL => (simp only [List.length_nil]; omega)); (intro v1 w1 ho hb1 hg hat; rw [List.nil_append] at ho; have hz := hg.size; rw [World.size_alloc] at hz; obtain ⟨A1, c1, rfl, hlc1, hC1⟩ := Kd.R_reads ho; have HO := Aside0.mk ho; have HW := Aside0.mk hb1; have HC1 := Aside0.mk hC1; clear ho hb1 hg hat hC1)))
  go_ret
  have hnew : (w1.alloc (.cells #[.slice A1 l.length c1, .int .i64 0] 122)).heap[w1.heap.size]? = some (.cells #[.slice A1 l.length c1, .int .i64 0] 122 (0, 0)) := heap_alloc_new _ _
  have hsz : (w1.alloc (.cells #[.slice A1 l.length c1, .int .i64 0] 122)).heap.size = w1.heap.size + 1 := World.size_alloc _ _
  have hbw := HW.out.alloc (by omega) (.cells #[.slice A1 l.length c1, .int .i64 0] 122)
  have hC2 : kU8.C (w1.alloc (.cells #[.slice A1 l.length c1, .int .i64 0] 122)) A1 l.length l := Kd.C_alloc HC1.out _
  cases A1 with
  | none => exact ⟨w1.heap.size, w.heap.size, rfl, ⟨none, c1, hnew, hlc1, fun a e => by simp at e, hC2, by omega⟩, hbw, by omega, by omega, by omega⟩
  | some a =>
    have h2 := R_at HO.out
    exact ⟨w1.heap.size, a.block, rfl, ⟨some a, c1, hnew, hlc1, fun a' e => by injection e with e; rw [e], hC2, by omega⟩, hbw, by omega, h2.1, by omega⟩

set_option maxHeartbeats 1000000 in
theorem put_calls (A : Option Addr) (c : Nat) (l : List Int) (n : Int) (w : World) (hC : kU8.C w A l.length l) (hll : l.length ≤ 140737488355300) (h0 : 0 ≤ n) (h1 : n < 18446744073709551616) :
    Calls Try.prog 53 #[.slice A l.length c, .int .u64 n] w fun e w' => ∃ v, e = .returned v ∧ kU8.R 5 w' w.heap.size (fun _ => True) v (l ++ putl n.toNat) ∧ Below w.heap.size w w' := by
  have HC := Aside0.mk hC
  clear hC
  go_enter Try.func53, Try.ntmps53
  go_wp2_with (first | ((with_reducible refine gate_builtin (b := .append) (xs := #[.tmp 6, .tmp 7]) rfl ?_); at_builtin; refine Kd.R_append_rows (Kd.int .u8) (w0 := w) w.heap.size rfl (.tmp 6) (.tmp 7) 24 5 (.int .u8 0) 1 rfl Try.underlying24 infoU8 rfl (by decide) (by omega) (.slice (some ⟨w.heap.size, 0, none⟩) 0 0) ([] : List Int) l _ _ _ (fun _ => True) (fun _ => False) rfl rfl ?aO ?aR (fun _ _ h => h) (fun _ h => h.elim) ?aF ?aB ?aS ?aL ?_; (case aR => exact Kd.C_alloc HC.out _); (case aB => exact (Below.refl _ _).alloc (Nat.le_refl _) _); (case aF => exact (fun _ _ => trivial)); (case aO => exact R_lit0 kU8 5 w); (case aS => simp); (case aL => (simp only [List.length_nil]; omega)); (intro v1 w1 ho hb1 hg hat; rw [List.nil_append] at ho; have HO := Aside0.mk ho; have HW := Aside0.mk hb1; clear ho hb1 hg hat)))
  go_loopw [1, 5] (fun vn vb wr => ∃ (m : Int) (xs : List Int), vn = .int .u64 m ∧ 0 ≤ m ∧ m < 18446744073709551616 ∧ Aside0 (xs ++ putl m.toNat = l ++ putl n.toNat) ∧ Aside0 (kU8.R 5 wr w.heap.size (fun _ => True) vb xs) ∧ Aside0 (Below w.heap.size w wr)) (fun vn _ _ => (intOf vn).toNat)
  case atStart => exact ⟨n, l, rfl, h0, h1, ⟨rfl⟩, HO, HW⟩
  case round =>
    clear HO HW
    obtain ⟨m, xs, rfl, hm0, hm1, HE, HO, HW⟩ := hrel
    have hlen := congrArg List.length HE.out
    rw [List.length_append, List.length_append] at hlen
    have h10 := putl_ten n.toNat (by omega)
    have h1 := (putl_len m.toNat).1
    have hxl : xs.length ≤ 140737488355310 := by omega
    clear hlen h10 h1
    by_cases hlt : m < 128
    · have hp := putl_lt (n := m.toNat) (by omega)
      rw [Int.toNat_of_nonneg hm0] at hp
      have HP := Aside0.mk hp
      clear hp
      go_wp2_with (first | ((with_reducible refine gate_builtin (b := .append) (xs := #[.tmp 19, .tmp 22]) rfl ?_); at_builtin; refine Kd.R_append (Kd.int .u8) (w0 := w) w.heap.size rfl (.tmp 19) (.tmp 22) 24 5 (.int .u8 0) 1 rfl Try.underlying24 infoU8 rfl (by decide) (by omega) u5 xs m [.int .u8 m] (fun _ => True) (fun _ => False) rfl rfl ?aP (fun _ hk => hk.elim) ?aF ?aO ?aB ?aS ?aL ?_; (case aP => exact rfl); (case aB => exact HW.out); (case aF => exact (fun _ _ => trivial)); (case aO => exact HO.out); (case aS => exact HW.out.size); (case aL => omega); (intro v1 w1 ho hb1 hg hat; have HO2 := Aside0.mk ho; have HW2 := Aside0.mk hb1; clear ho hb1 hg hat)))
      go_ret
      exact ⟨_, rfl, by rw [← HE.out, HP.out]; exact HO2.out, HW2.out⟩
    · have hp := putl_ge (n := m.toNat) (by omega)
      rw [show ((m.toNat % 128 + 128 : Nat) : Int) = m % 128 + 128 by omega, show m.toNat / 128 = (m / 128).toNat by omega] at hp
      have HP := Aside0.mk hp
      have HQ := Aside0.mk (or128 m hm0)
      clear hp
      go_wp2_with (first | ((with_reducible refine gate_builtin (b := .append) (xs := #[.tmp 11, .tmp 15]) rfl ?_); at_builtin; refine Kd.R_append (Kd.int .u8) (w0 := w) w.heap.size rfl (.tmp 11) (.tmp 15) 24 5 (.int .u8 0) 1 rfl Try.underlying24 infoU8 rfl (by decide) (by omega) u5 xs (Go.bits .or .u8 (m % 256) 128) [.int .u8 (Go.bits .or .u8 (m % 256) 128)] (fun _ => True) (fun _ => False) rfl rfl ?aP (fun _ hk => hk.elim) ?aF ?aO ?aB ?aS ?aL ?_; (case aP => exact rfl); (case aB => exact HW.out); (case aF => exact (fun _ _ => trivial)); (case aO => exact HO.out); (case aS => exact HW.out.size); (case aL => omega); (intro v1 w1 ho hb1 hg hat; have HO2 := Aside0.mk ho; have HW2 := Aside0.mk hb1; clear ho hb1 hg hat)))
      go_roundw
      case rel => exact ⟨m / 128, _, rfl, by omega, by omega, ⟨by rw [← HE.out, HP.out, HQ.out, List.append_assoc]; rfl⟩, HO2, HW2⟩
      case measure => simp [intOf]; omega

end Go.Proofs.Ytfcpnjoiloahcaa.Lc
namespace Go.Proofs.Ytfcpnjoiloahcaa.Lr
open Go.RowKit Go.Proofs.YtfcpnjoiloahcaaW.PrintWords Go.Proofs.YtfcpnjoiloahcaaW.PrintLast Go.Proofs.YtfcpnjoiloahcaaW.PrintMore Go.Proofs.Ytfcpnjoiloahcaa.B Go.Proofs.Ytfcpnjoiloahcaa.Ls Go.Proofs.Ytfcpnjoiloahcaa.Lc
set_option linter.unusedVariables false
set_option linter.unusedSimpArgs false

set_option maxRecDepth 100000 in
set_option maxHeartbeats 4000000 in
theorem num_calls (g b : Nat) (l : List Int) (code : Int) (w : World) (h : Rdr 95 w g b l code) (hby : By l) :
    Calls Try.prog 60 #[.pointer (some ⟨g, 0, none⟩)] w fun e w' => e = .returned (.int .u64 (num l code).1) ∧ Rdr 95 w' g b (num l code).2.1 (num l code).2.2 ∧ Keep (· = g) w w' ∧ w'.heap.size = w.heap.size := by
  have HR := Aside0.mk h
  obtain ⟨A, c, hc0, hf0, hb, hlc, hA, hC, hne⟩ := h.left
  obtain ⟨hc1, hf1⟩ := h.code
  have HB := Aside0.mk hb
  have HC := Aside0.mk hC
  have HA := Aside0.mk hA
  have HY := Aside0.mk hby
  clear hb hC hA hby h
  by_cases h0 : code = 0
  · subst h0
    have HN : Aside0 (num l 0 = numGo l (l.drop 0) 0 0) := ⟨rfl⟩
    have hmax : l.length ≤ 9223372036854775807 := HC.out.2.1
    go_enter Try.func60, Try.ntmps60
    go_wp2
    go_loopw [3, 4, 5] (fun n u i wr => ∃ (k : Nat) (N U : Int), k ≤ l.length ∧ k ≤ 9 ∧ 0 ≤ N ∧ i = .int .i64 k ∧ n = .int .u64 N ∧ u = .int .u64 U ∧ 0 < U ∧ U ≤ 9223372036854775808 ∧ Aside0 (U = 128 ^ k ∧ N < 128 ^ k ∧ num l 0 = numGo l (l.drop k) k N) ∧ wr = w) (fun _ _ i _ => l.length - (intOf i).toNat)
    case atStart => exact ⟨0, 0, 1, by omega, by omega, by decide, rfl, rfl, rfl, by decide, by decide, ⟨by decide, by decide, HN.out⟩, rfl⟩
    case round =>
      clear HN
      obtain ⟨k, N, U, hk, hk9, hN0, rfl, rfl, rfl, hU0, hU1, HN, rfl⟩ := hrel
      by_cases hlt : k < l.length
      · obtain ⟨ad, rfl⟩ := C_some HC.out (by omega)
        obtain ⟨x, hx⟩ : ∃ x, l[k]? = some x := ⟨_, List.getElem?_eq_getElem hlt⟩
        have hcx := C_cell HC.out hx
        obtain ⟨hx0, hx1⟩ := HY.out.at hx
        have hd : l.drop k = x :: l.drop (k + 1) := by rw [List.drop_eq_getElem_cons hlt]; congr 1; simpa [List.getElem?_eq_getElem hlt] using hx
        obtain ⟨hU, hN1, hN⟩ := HN.out
        rw [hd, numGo] at hN
        have hkl : ((k : Int) == (l.length : Int)) = false := by rw [beq_eq_false_iff_ne]; omega
        clear hd HN hx
        by_cases hb1 : (k = 9 ∧ 1 < x) ∨ (0 < k ∧ x = 0)
        · rw [if_pos hb1] at hN
          have HN := Aside0.mk hN
          clear hN hU hN1
          have key : (((k : Int) == 9) = true ∧ decide (1 < x) = true) ∨ (((k : Int) == 9) = true ∧ decide (1 < x) = false ∧ 0 < k ∧ (x == 0) = true) ∨ (((k : Int) == 9) = false ∧ 0 < k ∧ (x == 0) = true) := by
            by_cases h9 : k = 9
            · by_cases h1 : 1 < x
              · exact .inl ⟨by rw [beq_iff_eq]; omega, by simp; omega⟩
              · exact .inr (.inl ⟨by rw [beq_iff_eq]; omega, by simp; omega, by omega, by rw [beq_iff_eq]; omega⟩)
            · exact .inr (.inr ⟨by rw [beq_eq_false_iff_ne]; omega, by omega, by rw [beq_iff_eq]; omega⟩)
          clear hb1
          rcases key with ⟨f1, f2⟩ | ⟨f1, f2, f3, f4⟩ | ⟨f1, f3, f4⟩
          all_goals
            go_wp2
            go_ret
            exact ⟨ret_eq (by rw [HN.out]), by rw [HN.out]; exact HR.out.set 8, (Keep.refl _ _).setCell _ _ (fun _ => rfl), by simp [World.setCell]⟩
        · rw [if_neg hb1] at hN
          have key : (((k : Int) == 9) = true ∧ decide (1 < x) = false ∧ 0 < k ∧ (x == 0) = false) ∨ (((k : Int) == 9) = false ∧ 0 < k ∧ (x == 0) = false) ∨ (((k : Int) == 9) = false ∧ ¬ 0 < k) := by
            by_cases h9 : k = 9
            · exact .inl ⟨by rw [beq_iff_eq]; omega, by simp; omega, by omega, by rw [beq_eq_false_iff_ne]; omega⟩
            · by_cases hp : 0 < k
              · exact .inr (.inl ⟨by rw [beq_eq_false_iff_ne]; omega, hp, by rw [beq_eq_false_iff_ne]; omega⟩)
              · exact .inr (.inr ⟨by rw [beq_eq_false_iff_ne]; omega, hp⟩)
          have hmx := go_max k hk9 (x % 128) (by omega) (by omega) (by omega)
          have hnn := Int.mul_nonneg (show 0 ≤ x % 128 by omega) (Int.le_of_lt hU0)
          have hgl := go_lt k N (x % 128) hN1 (by omega)
          rw [← hU] at hmx hgl
          have htop : N + x % 128 * U < 18446744073709551616 := by
            rcases Nat.lt_or_eq_of_le hk9 with h8 | rfl
            · have := pow_le (k + 1) 9 h8
              rw [pow9] at this
              omega
            · have hU9 : U = 9223372036854775808 := by rw [hU, pow9]
              rw [pow9] at hN1
              have : x % 128 ≤ 1 := by omega
              have := Int.mul_le_mul_of_nonneg_right this (Int.le_of_lt hU0)
              omega
          have hw1 := wraps_u64 (x % 128 * U) hnn (by rw [two64]; exact hmx)
          have hw2 := wraps_u64 (N + x % 128 * U) (by omega) (by rw [two64]; exact htop)
          by_cases h128 : x < 128
          · rw [if_pos h128, ← hU] at hN
            have hxm : x % 128 = x := by omega
            obtain ⟨i5, hi5, -, hi5s, -⟩ := info_ex infoU8
            obtain ⟨A', hrun, hC', hblk, hlc'⟩ := sl_from kU8 24 5 .i64 Try.underlying24 hi5 (some ad) c l hi5s ((k : Int) + 1) (by omega) (by omega) hlc
            rw [show ((k : Int) + 1).toNat = k + 1 by omega] at hrun hC' hlc'
            have HN := Aside0.mk hN
            have HM := Aside0.mk hxm
            have HC' := Aside0.mk (hC' _ HC.out)
            have HBL := Aside0.mk hblk
            have HW1 := Aside0.mk hw1
            have HW2 := Aside0.mk hw2
            clear hN hC' hblk hi5 hi5s hb1 hmx hN1 hnn hgl htop hxm hU hw1 hw2
            rcases key with ⟨f1, f2, f3, f4⟩ | ⟨f1, f3, f4⟩ | ⟨f1, f3⟩
            all_goals
              go_wp2
              go_ret
              refine ⟨ret_eq ?_, ?_, (Keep.refl _ _).setCell _ _ (fun _ => rfl), by simp [World.setCell]⟩
              · rw [HN.out]; first | (simp only [HW1.out, HW2.out, HM.out]; done) | (simp only [HM.out] at *; simp only [HW1.out, HW2.out])
              · have hcut := Rdr.cut HB.out HA.out hne hlc' HBL.out HC'.out
                rw [List.length_drop] at hcut
                rw [HN.out]; exact hcut
          · rw [if_neg h128, ← hU] at hN
            have hxm : x % 128 = x - 128 := by omega
            have hk8 : k < 9 := by omega
            have hU2 : U * 128 = 128 ^ (k + 1) := by rw [Int.pow_succ, hU]
            have hU3 : U * 128 ≤ 9223372036854775808 := by
              have := pow_le (k + 1) 9 hk8
              rw [pow9] at this
              omega
            have HN := Aside0.mk hN
            have HM := Aside0.mk hxm
            have HG := Aside0.mk hgl
            have HU := Aside0.mk hU2
            have HNN := Aside0.mk hnn
            have HW1 := Aside0.mk hw1
            have HW2 := Aside0.mk hw2
            clear hN hb1 hmx hN1 hnn hgl htop hxm hU hU2 hw1 hw2
            rcases key with ⟨f1, f2, f3, f4⟩ | ⟨f1, f3, f4⟩ | ⟨f1, f3⟩
            all_goals
              go_wp2
              go_roundw
              case rel => exact ⟨k + 1, N + x % 128 * U, U * 128, by omega, by omega, by have := HNN.out; omega, by go_num, by first | rw [HW1.out, HW2.out] | rfl, rfl, by omega, by omega, ⟨HU.out, HG.out, by rw [HM.out]; exact HN.out⟩, by first | rfl | trivial⟩
              case measure => simp [intOf]; omega
      · have hkl : ((k : Int) == (l.length : Int)) = true := by rw [beq_iff_eq]; omega
        have hd : l.drop k = [] := by rw [List.drop_eq_nil_iff]; omega
        have hN := HN.out.2.2
        rw [hd, numGo] at hN
        have HN := Aside0.mk hN
        clear hd hN
        go_wp2
        go_ret
        exact ⟨ret_eq (by rw [HN.out]), by rw [HN.out]; exact HR.out.set 3, (Keep.refl _ _).setCell _ _ (fun _ => rfl), by simp [World.setCell]⟩
  · have h1 : (code != 0) = true := bne_iff_ne.mpr h0
    have h2 : num l code = (0, l, code) := if_neg h0
    have H2 := Aside0.mk h2
    clear h0 h2
    go_enter Try.func60, Try.ntmps60
    go_wp2
    go_ret
    exact ⟨ret_eq (by rw [H2.out]), by rw [H2.out]; exact HR.out, Keep.refl _ _, rfl⟩
end Go.Proofs.Ytfcpnjoiloahcaa.Lr
