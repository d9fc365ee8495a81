/- slices.SortFunc, Compact, Clone at pairs; with. -/
import Derived.Test.YtmkkebllmmafmaaPm
import Derived.Test.YtmkkebllmmafmaaPl
namespace Go.Proofs.Ytmkkebllmmafmaa.Pw
open Go.Sort Go.Shelf Go.RowKit Go.Proofs.YtmkkebllmmafmaaW.PrintWords Go.Proofs.YtmkkebllmmafmaaW.PrintLast Go.Proofs.YtmkkebllmmafmaaW.PrintMore Go.Proofs.Ytmkkebllmmafmaa.B Go.Proofs.Ytmkkebllmmafmaa.Ps Go.Proofs.Ytmkkebllmmafmaa.R Go.Proofs.Ytmkkebllmmafmaa.Pk Go.Proofs.Ytmkkebllmmafmaa.Pa Go.Proofs.Ytmkkebllmmafmaa.Pm Go.Proofs.Ytmkkebllmmafmaa.S
set_option linter.unusedVariables false
set_option linter.unusedSimpArgs false
theorem ins_none (p : Option Addr) (cap : Nat) (fv : Value) (w : World) :
    Calls Try.prog 47 #[.slice p 0 cap, .int .i64 0, .int .i64 0, fv] w fun e w' => e = .returned (.tuple #[]) ∧ w' = w := by
  go_enter Try.func47, Try.ntmps47
  go_wp2
  refine wp_loop_rounds 1 ?_
  rw [rounds_succ]
  go_wp2
  go_end0
  exact ⟨rfl, rfl⟩
theorem pdq_none (p : Option Addr) (cap : Nat) (lim : Int) (fv : Value) (w : World) :
    Calls Try.prog 45 #[.slice p 0 cap, .int .i64 0, .int .i64 0, .int .i64 lim, fv] w fun e w' => e = .returned (.tuple #[]) ∧ w' = w := by
  go_enter Try.func45, Try.ntmps45
  go_wp2
  refine wp_loop_rounds 1 ?_
  rw [rounds_succ]
  go_wp2_with (first | (go_at_call 47; refine (ins_none _ _ _ _).mono ?_; rintro e w2 ⟨rfl, rfl⟩))
  (try simp only [Exit.inBlock, Exit.then]); refine bodyPost_ret (results_none rfl _ _ _) rfl ?_
  exact ⟨rfl, rfl⟩
theorem sort_none (p : Option Addr) (cap : Nat) (fv : Value) (w : World) :
    Calls Try.prog 42 #[.slice p 0 cap, fv] w fun e w' => e = .returned (.tuple #[]) ∧ w' = w := by
  have hl : ∀ W, Calls Try.prog 46 #[.int .u64 0] W fun e w' => e = .returned (.int .i64 (Lib.bitLen 0 : Nat)) ∧ w' = W := fun W => by
    have h := Any.bits_Len (SlLaysF0.n15.bits (P := Try.prog) (ρ := Pl.ren) { Pl.lays with }) 0 W (by omega) (by omega)
    exact h
  go_enter Try.func42, Try.ntmps42
  go_wp2_with (first | (go_at_call 46; refine (hl _).mono ?_; rintro e w2 ⟨rfl, rfl⟩) | (go_at_call 45; refine (pdq_none _ _ _ _ _).mono ?_; rintro e w2 ⟨rfl, rfl⟩))
  go_end0
  exact ⟨rfl, rfl⟩
theorem cmpLays (blk off size : Nat) (w : World) : CmpLays Try.prog 30 #[] encP 2 cf blk off size w := fun m os dk hs x y => order_calls x y _
theorem enters_order : ∀ args w, (callFunc 30 args).run Try.prog w = .ok (.enter 30 args) w := enters_of Try.func30 (by kernel_rfl) rfl
/-- Pairs that are unlike come to rise. -/
theorem sort_calls (A : Option Addr) (n c : Nat) (l : List Pr) (hn : l.length = n) (base : Nat) (ok : Nat → Prop) (w : World) (h : kP.R 25 w base ok (.slice A n c) l) (hd : l.Nodup) (hl : n ≤ 1000000) :
    Calls Try.prog 42 #[.slice A n c, .func (.func 30) #[] #[]] w fun e w' => e = .returned (.tuple #[]) ∧ ∃ l', Rise l' ∧ (∀ p, p ∈ l' ↔ p ∈ l) ∧ l'.length = n ∧ kP.R 25 w' base ok (.slice A n c) l' ∧ Keep (fun k => (Value.slice A n c).ownBlock = some k) w w' := by
  rcases Nat.eq_zero_or_pos n with h0 | h0
  · subst h0
    obtain rfl := List.eq_nil_of_length_eq_zero hn
    exact (sort_none A c _ w).mono fun e w' ⟨he, hw⟩ => ⟨he, [], rise_nil, fun p => Iff.rfl, rfl, by rw [hw]; exact h, by rw [hw]; exact Keep.refl _ _⟩
  · obtain ⟨g, cur, rfl, hb, hh, hn', hnc, hcm, hcs, ht⟩ := P_head h (by omega)
    have hok := h.1
    have hds : l.toArray.size = n := by simpa using hn
    have hcon := AnyQ.slices_SortFunc Pl.lays 2 Try.isAgg25 Try.sizeOf25 encP (fun _ => rfl) (fun x v hv => by simp [encP] at hv; rcases hv with rfl | rfl <;> rfl) cf swo 30 #[] g 0 c l.toArray w enters_order (cmpLays _ _ _ _) (holds_of hh ht) (Array.getElem?_eq_some_iff.1 hh).1 (by omega)
    rw [hds] at hcon
    refine Calls.mono hcon ?_
    rintro e w' ⟨he, d', m, os, hp, hs, rfl⟩
    have hps : d'.size = n := by rw [hp.1, hds]
    have hrise := sorted_rise (d := l.toArray) (d' := d') (by simpa using hd) (by rw [hds]; exact hp) (by rw [hds]; exact hs)
    refine ⟨he, d'.toList, hrise.1, fun p => by rw [hrise.2 p], by simpa using hps, ?_, ?_⟩
    · have ho := sorted_own (base := base) m os hh hb (by omega : d'.size ≤ c) hcm hcs
      have e1 : d'.toList.length = n := by simpa using hps
      rw [e1] at ho
      exact P_of_own (by rw [e1]; exact ho) hok
    · exact (sorted_keep w g m d' os).mono fun k _ e => by subst e; rfl
set_option maxHeartbeats 2000000 in
/-- What rises is compact. -/
theorem compact_calls (A : Option Addr) (n c : Nat) (l : List Pr) (hn : l.length = n) (w : World) (hC : kP.C w A n l) (hr : Rise l) (hl : n ≤ 1000000) :
    Calls Try.prog 43 #[.slice A n c] w fun e w' => e = .returned (.slice A n c) ∧ Below w.heap.size w w' := by
  by_cases h2 : n < 2
  · clear hC
    have d0 : decide ((n : Int) < 2) = true := decide_eq_true (by omega)
    go_enter Try.func43, Try.ntmps43
    go_wp2_with fail
    go_ret
    exact ⟨rfl, Below.refl _ _⟩
  · have HC := Aside0.mk hC
    have HN := Aside0.mk hn
    have HR := Aside0.mk hr
    have HB0 := Aside0.mk (Below.refl w.heap.size w)
    have d0 : decide ((n : Int) < 2) = false := decide_eq_false (by omega)
    clear hC hn hr
    go_enter Try.func43, Try.ntmps43
    go_wp2_with fail
    go_loopw [3] (fun vi wr => ∃ k : Nat, k + 1 ≤ n ∧ vi = .int .i64 ((k + 1 : Nat) : Int) ∧ Aside0 (Below w.heap.size w wr)) (fun vi _ => n - (intOf vi).toNat)
    case atStart => exact ⟨0, by omega, rfl, HB0⟩
    case round =>
      clear HB0
      obtain ⟨k, hk, rfl, HB⟩ := hrel
      by_cases hgo : k + 1 < n
      · have d1 : decide (((k + 1 : Nat) : Int) < n) = true := decide_eq_true (by omega)
        obtain ⟨p, hp⟩ : ∃ p, l[k + 1]? = some p := ⟨_, List.getElem?_eq_getElem (by rw [HN.out]; exact hgo)⟩
        obtain ⟨q, hq⟩ : ∃ q, l[k]? = some q := ⟨_, List.getElem?_eq_getElem (by rw [HN.out]; omega)⟩
        have hlt : lt q p := HR.out.at (by omega) hq hp
        obtain ⟨ad, rfl, h0, h1⟩ := P_get (Kd.C_below HC.out HB.out) hp
        obtain ⟨ad', e', h0', h1'⟩ := P_get (Kd.C_below HC.out HB.out) hq
        injection e' with e'
        subst e'
        have hne := fun W => run_eqlP W p q
        simp only [lt_beq hlt] at hne
        have wk := wrI64 (k : Int) (by omega) (by omega)
        have hkn : k < n := by omega
        clear hp hq hlt
        go_wp2_with fail
        go_quiet (fail)
        go_wp2
        go_roundw
        case rel => exact ⟨k + 1, by omega, by go_num, ⟨belowN HB.out _⟩⟩
        case measure => simp [intOf]; omega
      · have d1 : decide (((k + 1 : Nat) : Int) < n) = false := decide_eq_false (by omega)
        go_wp2_with fail
        go_ret
        exact ⟨rfl, HB.out⟩
theorem infoP : (Try.prog.info? 25).map (fun i => (i.zero, i.size, i.bytes)) = some (some (.agg #[.int .i64 0, .int .i64 0]), 2, 16) := by kernel_rfl
set_option maxHeartbeats 4000000 in
set_option maxRecDepth 100000 in
/-- Those that stay, and more, rising. -/
theorem with_calls (A : Option Addr) (n c : Nat) (l : List Pr) (hn : l.length = n) (g : Nat) (cb : Array Value) (f : Pr → Bool) (A2 : Option Addr) (m c2 : Nat) (more : List Pr) (hm : more.length = m) (w : World) (hC : kP.C w A n l) (hM : kP.C w A2 m more)
    (eg : ∀ args w, (callFunc g args).run Try.prog w = .ok (.enter g args) w)
    (hst : ∀ (p : Pr) (W : World), p ∈ l → Below w.heap.size w W → Calls Try.prog g (#[.agg #[.int .i64 p.1, .int .i64 p.2]] ++ cb) W fun e W' => e = .returned (.bool (f p)) ∧ Below W.heap.size W W')
    (hd : (l.filter f ++ more).Nodup) (hl : n ≤ 1000) (hl2 : m ≤ 1000) :
    Calls Try.prog 34 #[.slice A n c, .func (.func g) #[] cb, .slice A2 m c2] w fun e w' => ∃ v l', e = .returned v ∧ kP.R 25 w' w.heap.size (fun _ => True) v l' ∧ Rise l' ∧ (∀ p, p ∈ l' ↔ (p ∈ l ∧ f p = true) ∨ p ∈ more) ∧ Below w.heap.size w w' := by
  have HC := Aside0.mk hC
  have HM := Aside0.mk hM
  have HN := Aside0.mk hn
  have HMN := Aside0.mk hm
  have HST := Aside0.mk hst
  have HD := Aside0.mk hd
  have HR0 := Aside0.mk (Kd.R_nil kP 25 w w.heap.size (fun _ => True))
  have HB0 := Aside0.mk (Below.refl w.heap.size w)
  clear hC hM hn hm hst hd
  go_enter Try.func34, Try.ntmps34
  go_wp2_with fail
  go_loopw [7, 12] (fun vo vi wr => ∃ (k : Nat) (xs : List Pr), k ≤ n ∧ vi = .int .i64 k ∧ xs.length ≤ k ∧ Aside0 (xs = (l.take k).filter f) ∧ Aside0 (kP.R 25 wr w.heap.size (fun _ => True) vo xs) ∧ Aside0 (Below w.heap.size w wr)) (fun _ vi _ => n - (intOf vi).toNat)
  case atStart => exact ⟨0, [], by omega, rfl, by simp, ⟨by simp⟩, HR0, HB0⟩
  case round =>
    clear HR0 HB0
    obtain ⟨k, xs, hk, rfl, hxk, HX, HR, HB⟩ := hrel
    obtain ⟨Ao, co, rfl, hco, -⟩ := Kd.R_reads HR.out
    by_cases hgo : k < n
    · obtain ⟨p, hp⟩ : ∃ p, l[k]? = some p := ⟨_, List.getElem?_eq_getElem (by rw [HN.out]; exact hgo)⟩
      obtain ⟨ad, rfl, h0, h1⟩ := P_get (Kd.C_below HC.out HB.out) hp
      obtain ⟨WA, hWA⟩ : ∃ WA, WA = wr.alloc (.cells #[.int .i64 p.1, .int .i64 p.2] 25) := ⟨_, rfl⟩
      have hal : Below wr.heap.size wr WA := by rw [hWA]; exact (Below.refl _ _).alloc (Nat.le_refl _) _
      have hnew : WA.heap[wr.heap.size]? = some (.cells #[.int .i64 p.1, .int .i64 p.2] 25 (0, 0)) := by rw [hWA]; exact heap_alloc_new _ _
      have HBA := Aside0.mk (show Below w.heap.size w WA from HB.out.trans (hal.mono HB.out.size))
      have HRA := Aside0.mk (Kd.R_below HR.out hal)
      have HNEW := Aside0.mk hnew
      have y0 : WA.cell? ⟨wr.heap.size, 0, none⟩ = some (.int .i64 p.1) := by simp [World.cell?, hnew]
      have y1 : WA.cell? ⟨wr.heap.size, 1, none⟩ = some (.int .i64 p.2) := by simp [World.cell?, hnew]
      have hcall := HST.out p WA (List.mem_of_getElem? hp) HBA.out
      have htk : l.take (k + 1) = l.take k ++ [p] := by rw [List.take_add_one, hp]; rfl
      have HTK := Aside0.mk htk
      clear hp hal hnew htk
      cases hf : f p with
      | true =>
        rw [hf] at hcall
        have HF := Aside0.mk hf
        clear hf
        go_wp2_with fail
        rw [← hWA]
        refine hcall.mono ?_
        rintro e w2 ⟨rfl, hb2⟩
        have HBW := Aside0.mk (HBA.out.trans (hb2.mono HBA.out.size))
        have HRW := Aside0.mk (Kd.R_below HRA.out hb2)
        have hnew2 := (hb2.block wr.heap.size (Array.getElem?_eq_some_iff.1 HNEW.out).1).trans HNEW.out
        have z0 : w2.cell? ⟨wr.heap.size, 0, none⟩ = some (.int .i64 p.1) := by simp [World.cell?, hnew2]
        have z1 : w2.cell? ⟨wr.heap.size, 1, none⟩ = some (.int .i64 p.2) := by simp [World.cell?, hnew2]
        clear hb2 hnew2 y0 y1 h0 h1 hcall hWA
        go_wp2_with (first | ((with_reducible refine gate_builtin (b := .append) (xs := #[.tmp 19, .tmp 21]) rfl ?_); at_builtin; refine Kd.R_append kP (w0 := w) w.heap.size rfl (.tmp 19) (.tmp 21) 22 25 (.agg #[.int .i64 0, .int .i64 0]) 16 rfl Try.underlying22 infoP rfl (show 0 < 2 by decide) (by decide) (.slice Ao xs.length co) xs p [.int .i64 p.1, .int .i64 p.2] (fun _ => True) (fun _ => False) rfl rfl (kP_M.2 rfl) (fun _ h => h.elim) (fun _ _ => trivial) HRW.out HBW.out HBW.out.size (by omega) ?_; intro v3 w3 ho3 hb3 hg hat; have HO3 := Aside0.mk ho3; have HB3 := Aside0.mk hb3; clear ho3 hb3 hg hat))
        go_roundw
        case rel => exact ⟨k + 1, xs ++ [p], by omega, by go_num, by simp; omega, ⟨by rw [HTK.out, List.filter_append, HX.out]; simp [HF.out]⟩, HO3, HB3⟩
        case measure => simp [intOf]; omega
      | false =>
        rw [hf] at hcall
        have HF := Aside0.mk hf
        clear hf
        go_wp2_with fail
        rw [← hWA]
        refine hcall.mono ?_
        rintro e w2 ⟨rfl, hb2⟩
        have HBW := Aside0.mk (HBA.out.trans (hb2.mono HBA.out.size))
        have HRW := Aside0.mk (Kd.R_below HRA.out hb2)
        clear hb2 y0 y1 h0 h1 hcall hWA
        go_wp2
        go_roundw
        case rel => exact ⟨k + 1, xs, by omega, by go_num, by omega, ⟨by rw [HTK.out, List.filter_append, HX.out]; simp [HF.out]⟩, HRW, HBW⟩
        case measure => simp [intOf]; omega
    · obtain rfl : k = n := by omega
      have hfx : xs = l.filter f := by rw [HX.out, List.take_of_length_le (by rw [HN.out]; omega)]
      have HFX := Aside0.mk hfx
      have HMR := Aside0.mk (show ReadsRow (kP.K w) 2 wr A2 m more from ReadsRow.imp_ HM.out HB.out (fun _ _ h => h))
      clear hfx
      go_wp2_with (first
        | ((with_reducible refine gate_builtin (b := .append) (xs := #[.tmp 24, .tmp 25]) rfl ?_); at_builtin; refine Kd.R_append_rows kP (Rr := kP.K w) (w0 := w) w.heap.size rfl (.tmp 24) (.tmp 25) 22 25 (.agg #[.int .i64 0, .int .i64 0]) 16 rfl Try.underlying22 infoP rfl (show 0 < 2 by decide) (by decide) (.slice Ao xs.length co) xs more A2 m c2 (fun _ => True) (fun _ => False) rfl rfl HR.out HMR.out (fun x cs h => kP_M.2 (kP_K.1 h)) (fun _ h => h.elim) (fun _ _ => trivial) HB.out HB.out.size (by omega) ?_; intro v3 w3 ho3 hb3 hg hat; obtain ⟨A4, c4, rfl, -, -⟩ := Kd.R_reads ho3; obtain ⟨ln, hln⟩ : ∃ ln, (xs ++ more).length = ln := ⟨_, rfl⟩; rw [hln] at ho3 ⊢; have HLN := Aside0.mk hln; have HO3 := Aside0.mk ho3; have HB3 := Aside0.mk hb3; clear ho3 hb3 hg hat hln)
        | (go_at_call 42; refine (sort_calls A4 ln c4 (xs ++ more) HLN.out w.heap.size (fun _ => True) _ HO3.out (by rw [HFX.out]; exact HD.out) (by have h := HLN.out; rw [List.length_append, HMN.out] at h; omega)).mono ?_; rintro e w5 ⟨rfl, l5, hr5, hm5, hl5, ho5, hk5⟩; have HR5 := Aside0.mk hr5; have HM5 := Aside0.mk hm5; have HL5 := Aside0.mk hl5; have HO5 := Aside0.mk ho5; have HB5 := Aside0.mk (Keep.below_then HB3.out hk5 HB3.out.size (fun i hi he => by have := own_base (Kd.R_own HO3.out).choose_spec i he; omega)); clear hr5 hm5 hl5 ho5 hk5)
        | (go_at_call 43; obtain ⟨A6, c6, e6, -, hC6⟩ := Kd.R_reads HO5.out; injection e6 with e6 e7 e8; subst e6 e8; refine (compact_calls A4 ln c4 l5 HL5.out _ (by rw [HL5.out] at hC6; exact hC6) HR5.out (by have h := HLN.out; rw [List.length_append, HMN.out] at h; omega)).mono ?_; rintro e w6 ⟨rfl, hb6⟩; have HB6 := Aside0.mk hb6; clear hb6 hC6 e7))
      go_ret
      refine ⟨_, l5, rfl, Kd.R_below HO5.out HB6.out, HR5.out, fun p => ?_, HB5.out.trans (HB6.out.mono HB5.out.size)⟩
      rw [HM5.out p, List.mem_append, HFX.out, List.mem_filter]
end Go.Proofs.Ytmkkebllmmafmaa.Pw
