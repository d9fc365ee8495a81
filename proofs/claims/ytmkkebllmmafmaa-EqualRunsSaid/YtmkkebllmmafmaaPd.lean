/- Clone, Copied, Moved, Given of pairs. -/
import Derived.Test.YtmkkebllmmafmaaPw
namespace Go.Proofs.Ytmkkebllmmafmaa.Pd
open Go.Sort Go.RowKit Go.Proofs.YtmkkebllmmafmaaW.PrintWords Go.Proofs.YtmkkebllmmafmaaW.PrintLast Go.Proofs.YtmkkebllmmafmaaW.PrintMore Go.Proofs.Ytmkkebllmmafmaa.B Go.Proofs.Ytmkkebllmmafmaa.Ps Go.Proofs.Ytmkkebllmmafmaa.R Go.Proofs.Ytmkkebllmmafmaa.Pk Go.Proofs.Ytmkkebllmmafmaa.Pa Go.Proofs.Ytmkkebllmmafmaa.Pm Go.Proofs.Ytmkkebllmmafmaa.Pw Go.Proofs.Ytmkkebllmmafmaa.S
set_option linter.unusedVariables false
set_option linter.unusedSimpArgs false
set_option maxRecDepth 100000 in
theorem clone_calls (A : Option Addr) (n c : Nat) (l : List Pr) (hn : l.length = n) (w : World) (hC : kP.C w A n l) (hl : n ≤ 1000) :
    Calls Try.prog 33 #[.slice A n c] w fun e w' => ∃ v, e = .returned v ∧ kP.R 25 w' w.heap.size (fun _ => True) v l ∧ Below w.heap.size w w' := by
  have HC := Aside0.mk hC
  have heq := fun (A : Option Addr) (n c : Nat) (W : World) => Lib.run_eql_slice_nil (P := Try.prog) W 22 25 A n c 0 0 Try.underlying22
  cases A with
  | none =>
    have hl0 : l = [] := by
      rcases Nat.eq_zero_or_pos n with h | h
      · exact List.eq_nil_of_length_eq_zero (by omega)
      · obtain ⟨ad, e, _⟩ := hC.2.2 h; cases e
    subst hl0
    clear hC
    go_enter Try.func33, Try.ntmps33
    go_wp2
    go_ret
    exact ⟨_, rfl, Kd.R_nil _ _ _ _ _, Below.refl _ _⟩
  | some a =>
    have HMR := Aside0.mk (show ReadsRow (kP.K w) 2 (w.alloc (.cells #[] 25)) (some a) n l from ReadsRow.imp_ HC.out ((Below.refl _ _).alloc (Nat.le_refl _) _) (fun _ _ h => h))
    clear hC
    go_enter Try.func33, Try.ntmps33
    go_wp2_with (first | ((with_reducible refine gate_builtin (b := .append) (xs := #[.tmp 5, .tmp 6]) rfl ?_); at_builtin; refine Kd.R_append_rows kP (Rr := kP.K w) (w0 := w) w.heap.size rfl (.tmp 5) (.tmp 6) 22 25 (.agg #[.int .i64 0, .int .i64 0]) 16 rfl Try.underlying22 infoP rfl (show 0 < 2 by decide) (by decide) (.slice (some ⟨w.heap.size, 0, none⟩) 0 0) [] l (some a) n c (fun _ => True) (fun _ => False) rfl rfl (R_lit0 kP 25 w) HMR.out (fun x cs h => kP_M.2 (kP_K.1 h)) (fun _ h => h.elim) (fun _ _ => trivial) ((Below.refl _ _).alloc (Nat.le_refl _) _) (by simp) (by simp only [List.length_nil]; omega) ?_; intro v3 w3 ho3 hb3 hg hat; rw [List.nil_append] at ho3; have HO3 := Aside0.mk ho3; have HB3 := Aside0.mk hb3; clear ho3 hb3 hg hat))
    go_ret
    exact ⟨_, rfl, HO3.out, HB3.out⟩
theorem nodup_map {l : List Pr} {f : Pr → Pr} (h : l.Nodup) (hf : ∀ p ∈ l, ∀ q ∈ l, f p = f q → p = q) : (l.map f).Nodup := by
  unfold List.Nodup
  rw [List.pairwise_map]
  exact List.Pairwise.imp_of_mem (fun {a b} ha hb hab he => hab (hf a ha b hb he)) h
theorem copied_nodup {l : List Pr} (h : l.Nodup) (dst fr : Int) : (l.filter (fun p => p.2 != dst) ++ (l.filter (fun p => p.2 == fr)).map (fun p => (p.1, dst))).Nodup := by
  rw [List.nodup_append]
  refine ⟨h.filter _, nodup_map (h.filter _) ?_, ?_⟩
  · intro p hp q hq e
    have hp2 := (List.mem_filter.1 hp).2
    have hq2 := (List.mem_filter.1 hq).2
    simp only [beq_iff_eq] at hp2 hq2
    simp only [Prod.mk.injEq] at e
    exact Prod.ext (by omega) (by omega)
  · intro p hp q hq e
    obtain ⟨x, -, rfl⟩ := List.mem_map.1 hq
    have hp2 := (List.mem_filter.1 hp).2
    rw [e] at hp2
    simp at hp2
theorem copied_mem (l : List Pr) (dst fr : Int) (p : Pr) : (p ∈ l ∧ (p.2 != dst) = true ∨ p ∈ (l.filter (fun p => p.2 == fr)).map (fun p => (p.1, dst))) ↔ MemCopied l dst fr p := by
  unfold MemCopied
  rw [List.mem_map]
  constructor
  · rintro (⟨h1, h2⟩ | ⟨x, hx, rfl⟩)
    · exact .inl ⟨h1, by simpa using h2⟩
    · obtain ⟨h1, h2⟩ := List.mem_filter.1 hx
      have h3 : x.2 = fr := by simpa using h2
      refine .inr ⟨rfl, ?_⟩
      simp only
      rw [← h3]
      exact h1
  · rintro (⟨h1, h2⟩ | ⟨h1, h2⟩)
    · exact .inl ⟨h1, by simpa using h2⟩
    · refine .inr ⟨(p.1, fr), List.mem_filter.2 ⟨h2, by simp⟩, ?_⟩
      simp only
      exact Prod.ext rfl h1.symm
theorem copied_self (l : List Pr) (dst : Int) (p : Pr) : p ∈ l ↔ MemCopied l dst dst p := by
  unfold MemCopied
  by_cases h : p.2 = dst
  · have e : (p.1, dst) = p := Prod.ext rfl h.symm
    rw [e]
    simp [h]
  · simp [h]
theorem copied_fn (p : Pr) (dst : Int) (b : Nat) (w : World) (hb : w.cell? ⟨b, 0, none⟩ = some (.int .i64 dst)) :
    Calls Try.prog 35 (#[.agg #[.int .i64 p.1, .int .i64 p.2]] ++ #[.pointer (some ⟨b, 0, none⟩)]) w fun e w' => e = .returned (.bool (p.2 != dst)) ∧ Below w.heap.size w w' := by
  show Calls Try.prog 35 #[.agg #[.int .i64 p.1, .int .i64 p.2], .pointer (some ⟨b, 0, none⟩)] w _
  have hbl : b < w.heap.size := by
    unfold World.cell? at hb
    cases hh : w.heap[b]? with
    | none => simp [hh] at hb
    | some o => exact (Array.getElem?_eq_some_iff.1 hh).1
  have hb2 : (w.alloc (.cells #[.int .i64 p.1, .int .i64 p.2] 25)).cell? ⟨b, 0, none⟩ = some (.int .i64 dst) := pw_cell_below ((Below.refl _ _).alloc (Nat.le_refl _) _) hb
  clear hb
  go_enter Try.func35, Try.ntmps35
  obtain ⟨r, hr⟩ : ∃ r, r = (p.2 != dst) := ⟨_, rfl⟩
  rw [← hr]
  go_wp2
  go_ret
  exact ⟨by rw [hr]; rfl, (Below.refl _ _).alloc (Nat.le_refl _) _⟩
theorem copied_enters : ∀ args w, (callFunc 35 args).run Try.prog w = .ok (.enter 35 args) w := enters_of Try.func35 (by kernel_rfl) rfl
set_option maxHeartbeats 2000000 in
set_option maxRecDepth 100000 in
theorem copied_calls (A : Option Addr) (n c : Nat) (l : List Pr) (hn : l.length = n) (dst fr : Int) (w : World) (hC : kP.C w A n l) (hr : Rise l) (hl : n ≤ 500) :
    Calls Try.prog 17 #[.slice A n c, .int .i64 dst, .int .i64 fr] w fun e w' => ∃ v l', e = .returned v ∧ kP.R 25 w' w.heap.size (fun _ => True) v l' ∧ Rise l' ∧ (∀ p, p ∈ l' ↔ MemCopied l dst fr p) ∧ Below w.heap.size w w' := by
  have HC := Aside0.mk hC
  have HN := Aside0.mk hn
  have HRI := Aside0.mk hr
  obtain ⟨W, hW⟩ : ∃ W, W = w.alloc (.cells #[.int .i64 dst] 3) := ⟨_, rfl⟩
  have hal : Below w.heap.size w W := by rw [hW]; exact (Below.refl _ _).alloc (Nat.le_refl _) _
  have hws : W.heap.size = w.heap.size + 1 := by rw [hW, World.size_alloc]
  have hnew : W.heap[w.heap.size]? = some (.cells #[.int .i64 dst] 3 (0, 0)) := by rw [hW]; exact heap_alloc_new _ _
  have HAL := Aside0.mk hal
  have HWS := Aside0.mk hws
  have HNEW := Aside0.mk hnew
  clear hC hn hr hal hws hnew
  by_cases htf : dst = fr
  · subst htf
    go_enter Try.func17, Try.ntmps17
    go_wp2_with (first | (rw [← hW]; go_at_call 33; refine (clone_calls A n c l HN.out _ (Kd.C_below HC.out HAL.out) (by omega)).mono ?_; rintro e w2 ⟨v, rfl, ho, hb⟩; have HO := Aside0.mk ho; have HB := Aside0.mk hb; clear ho hb))
    go_ret
    exact ⟨_, l, rfl, Kd.R_lower HO.out (by rw [HWS.out]; omega), HRI.out, copied_self l _, HAL.out.trans (HB.out.mono HAL.out.size)⟩
  · have htb : (dst == fr) = false := by simp [htf]
    clear htf
    have HR0 := Aside0.mk (Kd.R_nil kP 25 W W.heap.size (fun _ => True))
    have HB0 := Aside0.mk (Below.refl W.heap.size W)
    go_enter Try.func17, Try.ntmps17
    go_wp2_with fail
    rw [← hW]
    clear hW
    go_loopw [7, 17] (fun vo vi wr => ∃ (k : Nat) (xs : List Pr), k ≤ n ∧ vi = .int .i64 k ∧ xs.length ≤ k ∧ Aside0 (xs = ((l.take k).filter (fun p => p.2 == fr)).map (fun p => (p.1, dst))) ∧ Aside0 (kP.R 25 wr W.heap.size (fun _ => True) vo xs) ∧ Aside0 (Below W.heap.size W wr)) (fun _ vi _ => n - (intOf vi).toNat)
    case atStart => exact ⟨0, [], by omega, rfl, by simp, ⟨by simp⟩, HR0, HB0⟩
    case round =>
      clear HR0 HB0
      obtain ⟨k, xs, hk, rfl, hxk, HX, HR, HB⟩ := hrel
      obtain ⟨Ao, co, rfl, hco, -⟩ := Kd.R_reads HR.out
      by_cases hgo : k < n
      · obtain ⟨p, hp⟩ : ∃ p, l[k]? = some p := ⟨_, List.getElem?_eq_getElem (by rw [HN.out]; exact hgo)⟩
        obtain ⟨ad, rfl, h0, h1⟩ := P_get (Kd.C_below (Kd.C_below HC.out HAL.out) (HB.out.mono (Nat.le_refl _))) hp
        have hto := (HB.out.block w.heap.size (by rw [HWS.out]; omega)).trans HNEW.out
        obtain ⟨WA, hWA⟩ : ∃ WA, WA = wr.alloc (.cells #[.int .i64 p.1, .int .i64 p.2] 25) := ⟨_, rfl⟩
        have HAW := Aside0.mk (show Below wr.heap.size wr WA by rw [hWA]; exact (Below.refl wr.heap.size wr).alloc (Nat.le_refl _) _)
        have hnw : WA.heap[wr.heap.size]? = some (.cells #[.int .i64 p.1, .int .i64 p.2] 25 (0, 0)) := by rw [hWA]; exact heap_alloc_new _ _
        have y0 : WA.cell? ⟨wr.heap.size, 0, none⟩ = some (.int .i64 p.1) := by simp [World.cell?, hnw]
        have y1 : WA.cell? ⟨wr.heap.size, 1, none⟩ = some (.int .i64 p.2) := by simp [World.cell?, hnw]
        have z2 : WA.cell? ⟨w.heap.size, 0, none⟩ = some (.int .i64 dst) := pw_cell_below HAW.out (by simp [World.cell?, hto])
        have htk : l.take (k + 1) = l.take k ++ [p] := by rw [List.take_add_one, hp]; rfl
        have HTK := Aside0.mk htk
        clear hp htk hto hnw
        go_upto_region 7 with fail
        rw [← hWA]
        clear hWA h0 h1
        by_cases hf : p.2 = fr
        · have hfb : (p.2 == fr) = true := by simp [hf]
          have HF := Aside0.mk hfb
          clear hf
          go_wp2_with (first | ((with_reducible refine gate_builtin (b := .append) (xs := #[.tmp 25, .tmp 30]) rfl ?_); at_builtin; refine Kd.R_append kP (w0 := W) W.heap.size rfl (.tmp 25) (.tmp 30) 22 25 (.agg #[.int .i64 0, .int .i64 0]) 16 rfl Try.underlying22 infoP rfl (show 0 < 2 by decide) (by decide) (.slice Ao xs.length co) xs (p.1, dst) [.int .i64 p.1, .int .i64 dst] (fun _ => True) (fun _ => False) rfl rfl (kP_M.2 rfl) (fun _ h => h.elim) (fun _ _ => trivial) (Kd.R_below HR.out HAW.out) (HB.out.trans (HAW.out.mono HB.out.size)) (HB.out.trans (HAW.out.mono HB.out.size)).size (by omega) ?_; intro v3 w3 ho3 hb3 hg hat; have HO3 := Aside0.mk ho3; have HB3 := Aside0.mk hb3; clear ho3 hb3 hg hat))
          go_roundw
          case rel => exact ⟨k + 1, xs ++ [(p.1, dst)], by omega, by go_num, by simp; omega, ⟨by rw [HTK.out, List.filter_append, List.map_append, HX.out]; simp [HF.out]⟩, HO3, HB3⟩
          case measure => simp [intOf]; omega
        · have hfb : (p.2 == fr) = false := by simp [hf]
          have HF := Aside0.mk hfb
          clear hf
          go_wp2_with fail
          go_roundw
          case rel => exact ⟨k + 1, xs, by omega, by go_num, by omega, ⟨by rw [HTK.out, List.filter_append, List.map_append, HX.out]; simp [HF.out]⟩, ⟨Kd.R_below HR.out HAW.out⟩, ⟨HB.out.trans (HAW.out.mono HB.out.size)⟩⟩
          case measure => simp [intOf]; omega
      · obtain rfl : k = n := by omega
        have hfx : xs = (l.filter (fun p => p.2 == fr)).map (fun p => (p.1, dst)) := by rw [HX.out, List.take_of_length_le (by rw [HN.out]; omega)]
        have HFX := Aside0.mk hfx
        obtain ⟨A9, c9, e9, -, hC9⟩ := Kd.R_reads HR.out
        injection e9 with e9
        subst e9
        have HC9 := Aside0.mk hC9
        have HBW := Aside0.mk (HAL.out.trans (HB.out.mono HAL.out.size))
        obtain ⟨xn, hxn⟩ : ∃ xn, xs.length = xn := ⟨_, rfl⟩
        have HXN := Aside0.mk hxn
        rw [hxn] at hxk ⊢
        clear hfx hC9 hxn
        have hto := (HB.out.block w.heap.size (by rw [HWS.out]; omega)).trans HNEW.out
        have hcl : wr.cell? ⟨w.heap.size, 0, none⟩ = some (.int .i64 dst) := by simp [World.cell?, hto]
        have HCL := Aside0.mk hcl
        clear hto hcl
        go_wp2_with (first | (go_at_call 34; (refine (with_calls A _ c l HN.out 35 #[.pointer (some ⟨w.heap.size, 0, none⟩)] (fun p => p.2 != dst) Ao xn _ xs HXN.out wr (Kd.C_below HC.out HBW.out) (by have h := HC9.out; rw [HXN.out] at h; exact h) copied_enters (fun p W2 _ hW2 => copied_fn p dst w.heap.size W2 (pw_cell_below hW2 HCL.out)) (by rw [HFX.out]; exact copied_nodup HRI.out.nodup dst fr) (by omega) (by omega)).mono ?_); rintro e w5 ⟨v5, l5, rfl, ho5, hr5, hm5, hb5⟩; have HO5 := Aside0.mk ho5; have HR5 := Aside0.mk hr5; have HM5 := Aside0.mk hm5; have HB5 := Aside0.mk hb5; clear ho5 hr5 hm5 hb5))
        go_ret
        refine ⟨_, l5, rfl, Kd.R_lower HO5.out HBW.out.size, HR5.out, fun p => ?_, HBW.out.trans (HB5.out.mono HBW.out.size)⟩
        rw [HM5.out p, HFX.out]
        exact copied_mem l dst fr p
theorem moved_nodup {l : List Pr} (h : l.Nodup) (dst fr : Int) : (l.filter (fun p => p.1 != dst) ++ (l.filter (fun p => p.1 == fr)).map (fun p => (dst, p.2))).Nodup := by
  rw [List.nodup_append]
  refine ⟨h.filter _, nodup_map (h.filter _) ?_, ?_⟩
  · intro p hp q hq e
    have hp2 := (List.mem_filter.1 hp).2
    have hq2 := (List.mem_filter.1 hq).2
    simp only [beq_iff_eq] at hp2 hq2
    simp only [Prod.mk.injEq] at e
    exact Prod.ext (by omega) (by omega)
  · intro p hp q hq e
    obtain ⟨x, -, rfl⟩ := List.mem_map.1 hq
    have hp2 := (List.mem_filter.1 hp).2
    rw [e] at hp2
    simp at hp2
theorem moved_mem (l : List Pr) (dst fr : Int) (p : Pr) : (p ∈ l ∧ (p.1 != dst) = true ∨ p ∈ (l.filter (fun p => p.1 == fr)).map (fun p => (dst, p.2))) ↔ MemMoved l dst fr p := by
  unfold MemMoved
  rw [List.mem_map]
  constructor
  · rintro (⟨h1, h2⟩ | ⟨x, hx, rfl⟩)
    · exact .inl ⟨h1, by simpa using h2⟩
    · obtain ⟨h1, h2⟩ := List.mem_filter.1 hx
      have h3 : x.1 = fr := by simpa using h2
      refine .inr ⟨rfl, ?_⟩
      simp only
      rw [← h3]
      exact h1
  · rintro (⟨h1, h2⟩ | ⟨h1, h2⟩)
    · exact .inl ⟨h1, by simpa using h2⟩
    · refine .inr ⟨(fr, p.2), List.mem_filter.2 ⟨h2, by simp⟩, ?_⟩
      simp only
      exact Prod.ext h1.symm rfl
theorem moved_self (l : List Pr) (dst : Int) (p : Pr) : p ∈ l ↔ MemMoved l dst dst p := by
  unfold MemMoved
  by_cases h : p.1 = dst
  · have e : (dst, p.2) = p := Prod.ext h.symm rfl
    rw [e]
    simp [h]
  · simp [h]
theorem moved_fn (p : Pr) (dst : Int) (b : Nat) (w : World) (hb : w.cell? ⟨b, 0, none⟩ = some (.int .i64 dst)) :
    Calls Try.prog 36 (#[.agg #[.int .i64 p.1, .int .i64 p.2]] ++ #[.pointer (some ⟨b, 0, none⟩)]) w fun e w' => e = .returned (.bool (p.1 != dst)) ∧ Below w.heap.size w w' := by
  show Calls Try.prog 36 #[.agg #[.int .i64 p.1, .int .i64 p.2], .pointer (some ⟨b, 0, none⟩)] w _
  have hbl : b < w.heap.size := by
    unfold World.cell? at hb
    cases hh : w.heap[b]? with
    | none => simp [hh] at hb
    | some o => exact (Array.getElem?_eq_some_iff.1 hh).1
  have hb2 : (w.alloc (.cells #[.int .i64 p.1, .int .i64 p.2] 25)).cell? ⟨b, 0, none⟩ = some (.int .i64 dst) := pw_cell_below ((Below.refl _ _).alloc (Nat.le_refl _) _) hb
  clear hb
  go_enter Try.func36, Try.ntmps36
  obtain ⟨r, hr⟩ : ∃ r, r = (p.1 != dst) := ⟨_, rfl⟩
  rw [← hr]
  go_wp2
  go_ret
  exact ⟨by rw [hr]; rfl, (Below.refl _ _).alloc (Nat.le_refl _) _⟩
theorem moved_enters : ∀ args w, (callFunc 36 args).run Try.prog w = .ok (.enter 36 args) w := enters_of Try.func36 (by kernel_rfl) rfl
set_option maxHeartbeats 2000000 in
set_option maxRecDepth 100000 in
theorem moved_calls (A : Option Addr) (n c : Nat) (l : List Pr) (hn : l.length = n) (dst fr : Int) (w : World) (hC : kP.C w A n l) (hr : Rise l) (hl : n ≤ 500) :
    Calls Try.prog 20 #[.slice A n c, .int .i64 dst, .int .i64 fr] w fun e w' => ∃ v l', e = .returned v ∧ kP.R 25 w' w.heap.size (fun _ => True) v l' ∧ Rise l' ∧ (∀ p, p ∈ l' ↔ MemMoved l dst fr p) ∧ Below w.heap.size w w' := by
  have HC := Aside0.mk hC
  have HN := Aside0.mk hn
  have HRI := Aside0.mk hr
  obtain ⟨W, hW⟩ : ∃ W, W = w.alloc (.cells #[.int .i64 dst] 3) := ⟨_, rfl⟩
  have hal : Below w.heap.size w W := by rw [hW]; exact (Below.refl _ _).alloc (Nat.le_refl _) _
  have hws : W.heap.size = w.heap.size + 1 := by rw [hW, World.size_alloc]
  have hnew : W.heap[w.heap.size]? = some (.cells #[.int .i64 dst] 3 (0, 0)) := by rw [hW]; exact heap_alloc_new _ _
  have HAL := Aside0.mk hal
  have HWS := Aside0.mk hws
  have HNEW := Aside0.mk hnew
  clear hC hn hr hal hws hnew
  by_cases htf : dst = fr
  · subst htf
    go_enter Try.func20, Try.ntmps20
    go_wp2_with (first | (rw [← hW]; go_at_call 33; refine (clone_calls A n c l HN.out _ (Kd.C_below HC.out HAL.out) (by omega)).mono ?_; rintro e w2 ⟨v, rfl, ho, hb⟩; have HO := Aside0.mk ho; have HB := Aside0.mk hb; clear ho hb))
    go_ret
    exact ⟨_, l, rfl, Kd.R_lower HO.out (by rw [HWS.out]; omega), HRI.out, moved_self l _, HAL.out.trans (HB.out.mono HAL.out.size)⟩
  · have htb : (dst == fr) = false := by simp [htf]
    clear htf
    have HR0 := Aside0.mk (Kd.R_nil kP 25 W W.heap.size (fun _ => True))
    have HB0 := Aside0.mk (Below.refl W.heap.size W)
    go_enter Try.func20, Try.ntmps20
    go_wp2_with fail
    rw [← hW]
    clear hW
    go_loopw [7, 17] (fun vo vi wr => ∃ (k : Nat) (xs : List Pr), k ≤ n ∧ vi = .int .i64 k ∧ xs.length ≤ k ∧ Aside0 (xs = ((l.take k).filter (fun p => p.1 == fr)).map (fun p => (dst, p.2))) ∧ Aside0 (kP.R 25 wr W.heap.size (fun _ => True) vo xs) ∧ Aside0 (Below W.heap.size W wr)) (fun _ vi _ => n - (intOf vi).toNat)
    case atStart => exact ⟨0, [], by omega, rfl, by simp, ⟨by simp⟩, HR0, HB0⟩
    case round =>
      clear HR0 HB0
      obtain ⟨k, xs, hk, rfl, hxk, HX, HR, HB⟩ := hrel
      obtain ⟨Ao, co, rfl, hco, -⟩ := Kd.R_reads HR.out
      by_cases hgo : k < n
      · obtain ⟨p, hp⟩ : ∃ p, l[k]? = some p := ⟨_, List.getElem?_eq_getElem (by rw [HN.out]; exact hgo)⟩
        obtain ⟨ad, rfl, h0, h1⟩ := P_get (Kd.C_below (Kd.C_below HC.out HAL.out) (HB.out.mono (Nat.le_refl _))) hp
        have hto := (HB.out.block w.heap.size (by rw [HWS.out]; omega)).trans HNEW.out
        obtain ⟨WA, hWA⟩ : ∃ WA, WA = wr.alloc (.cells #[.int .i64 p.1, .int .i64 p.2] 25) := ⟨_, rfl⟩
        have HAW := Aside0.mk (show Below wr.heap.size wr WA by rw [hWA]; exact (Below.refl wr.heap.size wr).alloc (Nat.le_refl _) _)
        have hnw : WA.heap[wr.heap.size]? = some (.cells #[.int .i64 p.1, .int .i64 p.2] 25 (0, 0)) := by rw [hWA]; exact heap_alloc_new _ _
        have y0 : WA.cell? ⟨wr.heap.size, 0, none⟩ = some (.int .i64 p.1) := by simp [World.cell?, hnw]
        have y1 : WA.cell? ⟨wr.heap.size, 1, none⟩ = some (.int .i64 p.2) := by simp [World.cell?, hnw]
        have z2 : WA.cell? ⟨w.heap.size, 0, none⟩ = some (.int .i64 dst) := pw_cell_below HAW.out (by simp [World.cell?, hto])
        have htk : l.take (k + 1) = l.take k ++ [p] := by rw [List.take_add_one, hp]; rfl
        have HTK := Aside0.mk htk
        clear hp htk hto hnw
        go_upto_region 7 with fail
        rw [← hWA]
        clear hWA h0 h1
        by_cases hf : p.1 = fr
        · have hfb : (p.1 == fr) = true := by simp [hf]
          have HF := Aside0.mk hfb
          clear hf
          go_wp2_with (first | ((with_reducible refine gate_builtin (b := .append) (xs := #[.tmp 25, .tmp 30]) rfl ?_); at_builtin; refine Kd.R_append kP (w0 := W) W.heap.size rfl (.tmp 25) (.tmp 30) 22 25 (.agg #[.int .i64 0, .int .i64 0]) 16 rfl Try.underlying22 infoP rfl (show 0 < 2 by decide) (by decide) (.slice Ao xs.length co) xs (dst, p.2) [.int .i64 dst, .int .i64 p.2] (fun _ => True) (fun _ => False) rfl rfl (kP_M.2 rfl) (fun _ h => h.elim) (fun _ _ => trivial) (Kd.R_below HR.out HAW.out) (HB.out.trans (HAW.out.mono HB.out.size)) (HB.out.trans (HAW.out.mono HB.out.size)).size (by omega) ?_; intro v3 w3 ho3 hb3 hg hat; have HO3 := Aside0.mk ho3; have HB3 := Aside0.mk hb3; clear ho3 hb3 hg hat))
          go_roundw
          case rel => exact ⟨k + 1, xs ++ [(dst, p.2)], by omega, by go_num, by simp; omega, ⟨by rw [HTK.out, List.filter_append, List.map_append, HX.out]; simp [HF.out]⟩, HO3, HB3⟩
          case measure => simp [intOf]; omega
        · have hfb : (p.1 == fr) = false := by simp [hf]
          have HF := Aside0.mk hfb
          clear hf
          go_wp2_with fail
          go_roundw
          case rel => exact ⟨k + 1, xs, by omega, by go_num, by omega, ⟨by rw [HTK.out, List.filter_append, List.map_append, HX.out]; simp [HF.out]⟩, ⟨Kd.R_below HR.out HAW.out⟩, ⟨HB.out.trans (HAW.out.mono HB.out.size)⟩⟩
          case measure => simp [intOf]; omega
      · obtain rfl : k = n := by omega
        have hfx : xs = (l.filter (fun p => p.1 == fr)).map (fun p => (dst, p.2)) := by rw [HX.out, List.take_of_length_le (by rw [HN.out]; omega)]
        have HFX := Aside0.mk hfx
        obtain ⟨A9, c9, e9, -, hC9⟩ := Kd.R_reads HR.out
        injection e9 with e9
        subst e9
        have HC9 := Aside0.mk hC9
        have HBW := Aside0.mk (HAL.out.trans (HB.out.mono HAL.out.size))
        obtain ⟨xn, hxn⟩ : ∃ xn, xs.length = xn := ⟨_, rfl⟩
        have HXN := Aside0.mk hxn
        rw [hxn] at hxk ⊢
        clear hfx hC9 hxn
        have hto := (HB.out.block w.heap.size (by rw [HWS.out]; omega)).trans HNEW.out
        have hcl : wr.cell? ⟨w.heap.size, 0, none⟩ = some (.int .i64 dst) := by simp [World.cell?, hto]
        have HCL := Aside0.mk hcl
        clear hto hcl
        go_wp2_with (first | (go_at_call 34; (refine (with_calls A _ c l HN.out 36 #[.pointer (some ⟨w.heap.size, 0, none⟩)] (fun p => p.1 != dst) Ao xn _ xs HXN.out wr (Kd.C_below HC.out HBW.out) (by have h := HC9.out; rw [HXN.out] at h; exact h) moved_enters (fun p W2 _ hW2 => moved_fn p dst w.heap.size W2 (pw_cell_below hW2 HCL.out)) (by rw [HFX.out]; exact moved_nodup HRI.out.nodup dst fr) (by omega) (by omega)).mono ?_); rintro e w5 ⟨v5, l5, rfl, ho5, hr5, hm5, hb5⟩; have HO5 := Aside0.mk ho5; have HR5 := Aside0.mk hr5; have HM5 := Aside0.mk hm5; have HB5 := Aside0.mk hb5; clear ho5 hr5 hm5 hb5))
        go_ret
        refine ⟨_, l5, rfl, Kd.R_lower HO5.out HBW.out.size, HR5.out, fun p => ?_, HBW.out.trans (HB5.out.mono HBW.out.size)⟩
        rw [HM5.out p, HFX.out]
        exact moved_mem l dst fr p
end Go.Proofs.Ytmkkebllmmafmaa.Pd
